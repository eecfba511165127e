/- Own work. -/
import Derived.Test.YtigadclidanicaaGreatEvCall3
import Derived.LoopN
import Derived.Scope
set_option linter.all false
noncomputable section
def Qca:=@List.mem_range
def Qcb:=@Bool.not_eq_true'
def Qcc:=@List.all_eq_true
def Qcd:=@List.getElem?_mapIdx
def Qce:=@List.ext_getElem?
def Qcf:=@Array.all_eq_true_iff_forall_mem
def Qcg:=@List.mem_append_right
def Qch:=@Nat.blt_eq
def Qci:=@Bool.or_eq_true
def Qcj:=@List.mem_cons_self
def Qck:=@List.mem_filterMap
def Qcl:=@List.mem_flatMap
def Qcm:=@List.mem_cons_of_mem
def Qcn:=@List.map_congr_left
namespace Go.Ev
open Go
section
variable{W:Nat->Prop}{ρ:Rho}{H H':List c7}{F:Fz}{w:World}{E:Env}{o:Oper}{ac:Act}{a:List b7}{x:b7}
theorem z7{α:Prop}(h:(evalOp E a H .bad).run=some (x,H')):α:=by cases h
theorem Pe9(hA:Ia4 ρ H F w a ac.tmps)(hH:J0 W ρ H F w)(hG:GOk E F w)(hs:∀cs b,o.op≠.select cs b)(he:(evalOp E a H (Xc2 o)).run=some (x,H')):s4 E.P o ac w (U3 W ρ H F w x H'):=by
 unfold Xc2 at he;cases hts:pb2 o.op.operands.toList with
 |none=>rw[hts] at he;exact z7 he
 |some ts=>rw[hts] at he;exact ce6 hA hH hG hts hs he
theorem dd4{P:Program}{t:TypeId}(h:szT P t≠0):∃i,P.info? t=some i/\szT P t=i.size/\i.size≠0:=by
 cases hi:P.info? t with
 |none=>simp[szT,hi] at h
 |some i=>exact⟨i,rfl,by simp[szT,hi],by simpa [szT,hi] using h⟩
theorem fa1{α:Type}{x:Array α}{l:List α}(h:x.toList=l):x=l.toArray:=by rw[<- h]
theorem Dc1{P:Program}(l:List Operand)(r:List TypeId):(∃s y t u,l=[s,y]/\r=[t,u])\/(le4 P l r=.bad/\qg5 P l r=.bad):=by
 rcases l with _|⟨s,_|⟨y,_|⟨_,_⟩⟩⟩<;>rcases r with _|⟨t,_|⟨u,_|⟨_,_⟩⟩⟩<;>first|exact .inr ⟨rfl,rfl⟩|exact .inl ⟨_,_,_,_,rfl,rfl⟩
theorem qg9{P:Program}{o:Oper}(l:List Operand)(r:List TypeId):(∃y t,l=[y]/\r=[t])\/dg8 P o l r=.bad:=by
 rcases l with _|⟨y,_|⟨_,_⟩⟩<;>rcases r with _|⟨t,_|⟨_,_⟩⟩<;>first|exact .inr rfl|exact .inl ⟨_,_,rfl,rfl⟩
set_option maxHeartbeats 1000000 in
theorem tf3(hA:Ia4 ρ H F w a ac.tmps)(hH:J0 W ρ H F w)(hG:GOk E F w)(hcalls:∀f,l8 E.P E.G f (E.call f))
  (he:(evalOp E a H (cOp E.P o)).run=some (x,H')):s4 E.P o ac w (U3 W ρ H F w x H'):=by
 have hgen:(∀cs b,o.op≠.select cs b)->(evalOp E a H (Xc2 o)).run=some (x,H')->s4 E.P o ac w (U3 W ρ H F w x H'):=λhs h=>Pe9 hA hH hG hs h
 unfold cOp at he;cases ho:o.op with
 |move y=>simp only[ho] at he;exact ye4 hA hH hG (.inl ho) he
 |assign y=>simp only[ho] at he;exact ye4 hA hH hG (.inr ho) he
 |nilCheck y=>simp only[ho] at he;exact ye5 hA hH hG ho he
 |pick c y z=>simp only[ho] at he;exact Oe8 hA hH hG ho he
 |alloc t =>
  simp only[ho] at he;cases hz:zeT E.P t with
  |none=>simp only[hz] at he;exact z7 he
  |some z=>simp only[hz] at he;exact ye9 hH ho hz he
 |box t y=>simp only[ho] at he;exact jf7 hA hH hG ho he
 |build t ps =>
  simp only[ho] at he;cases hz:zeT E.P t with
  |none=>simp only[hz] at he;exact z7 he
  |some z =>
  simp only[hz] at he;cases hc:xb4 E.P t ps.toList with
  |none=>simp only[hc] at he;exact z7 he
  |some l =>
  simp only[hc] at he
  split at he
  ·rename_i hall;exact ze3 hA hH hG ho hz hc hall he
  ·exact z7 he
 |buildSlice t n ps =>
  simp only[ho] at he;cases hu:E.P.underlying t with
  |none=>simp only[hu] at he;exact z7 he
  |some u =>
  cases u with
  |slice e =>
   simp only[hu] at he;cases hz:zeT E.P e with
   |none=>simp only[hz] at he;exact z7 he
   |some z =>
   simp only[hz] at he;cases hc:xb4 E.P t ps.toList with
   |none=>simp only[hc] at he;exact z7 he
   |some l =>
   simp only[hc] at he
   split at he
   ·rename_i hcond;simp only[Qas] at hcond;exact me0 hA hH hG ho hu hz hc (Qae hcond.1.1) (Qad hcond.1.2) (Qae hcond.2) he
   ·exact z7 he
  |_=>simp only[hu] at he;exact z7 he
 |load t y =>
  simp only[ho] at he;cases hu:E.P.underlying t with
  |none=>simp only[hu] at he;exact z7 he
  |some u=>simp only[hu] at he;exact Pe1 hA hH hG ho (by rw[hu];simp) he
 |store t y z =>
  simp only[ho] at he
  split at he
  ·exact z7 he
  ·rename_i h0;exact ze0 hA hH hG ho (λh=>h0 (by rw[h];rfl)) he
 |fieldAddr s y f =>
  simp only[ho] at he;cases hu:E.P.underlying s with
  |none=>simp only[hu] at he;exact z7 he
  |some u =>
  cases u with
  |struct fs =>
   simp only[hu] at he;cases hf:fs[f]? with
   |none=>simp only[hf] at he;exact z7 he
   |some fd =>
   simp only[hf] at he
   split at he
   ·exact z7 he
   ·rename_i h0;exact jf4 hA hH hG ho hu hf (λh=>h0 (by rw[h];rfl)) he
  |_=>simp only[hu] at he;exact z7 he
 |indexAddr t y z =>
  simp only[ho] at he;cases hu:E.P.underlying t with
  |none=>simp only[hu] at he;exact z7 he
  |some u =>
  cases u with
  |array n e =>
   simp only[hu] at he
   split at he
   ·rename_i hi;obtain⟨ei,hei⟩:=Qbd.1 hi;exact Oe9 hA hH hG ho hu hei he
   ·exact z7 he
  |slice e =>
   simp only[hu] at he
   split at he
   ·rename_i hi;obtain⟨ei,hei⟩:=Qbd.1 hi;exact Pe0 hA hH hG ho hu hei he
   ·exact z7 he
  |_=>simp only[hu] at he;exact z7 he
 |slice t y lo hi mx =>
  simp only[ho] at he;cases hu:E.P.underlying t with
  |none=>simp only[hu] at he;exact z7 he
  |some u =>
  cases u with
  |slice e =>
   cases mx with
   |some _=>simp only[hu] at he;exact z7 he
   |none =>
   simp only[hu] at he
   split at he
   ·rename_i hi;obtain⟨ei,hei⟩:=Qbd.1 hi;exact ze6 hA hH hG ho hu hei he
   ·exact z7 he
  |array n e =>
   cases mx with
   |some _=>simp only[hu] at he;exact z7 he
   |none =>
   cases lo with
   |some _=>simp only[hu] at he;exact z7 he
   |none =>
   cases hi with
   |some _=>simp only[hu] at he;exact z7 he
   |none =>
   simp only[hu] at he
   split at he
   ·rename_i hi;rw[Qas,Qas,Qch,Qch] at hi;obtain⟨ei,hei⟩:=Qbd.1 hi.1;exact jf9 hA hH hG ho hu hei hi.2.1 hi.2.2 he
   ·exact z7 he
  |string =>
   cases mx with
   |some _=>simp only[hu] at he;exact z7 he
   |none=>simp only[hu] at he;exact hgen (λcs b e=>by rw[ho] at e;cases e) he
  |_=>simp only[hu] at he;exact z7 he
 |makeSlice t l c =>
  simp only[ho] at he;cases hu:E.P.underlying t with
  |none=>simp only[hu] at he;exact z7 he
  |some u =>
  cases u with
  |slice e =>
   simp only[hu] at he;cases hz:zeT E.P e with
   |none=>simp only[hz] at he;exact z7 he
   |some z =>
   simp only[hz] at he
   split at he
   ·rename_i hcond;simp only[Qas] at hcond;exact Pe2 hA hH hG ho hu hz (Qad hcond.1) (Qae hcond.2) he
   ·exact z7 he
  |_=>simp only[hu] at he;exact z7 he
 |makeFunc fr first caps =>
  cases fr with
  |func f =>
   simp only[ho] at he
   split at he
   ·rename_i hf
    split at he
    ·exact z7 he
    ·rename_i hlt;exact Pe3 hA hH hG ho hf (Bool.eq_false_iff.2 hlt) he
   ·split at he
    ·rename_i hc;exact Pe4 hA hH hG ho hc he
    ·exact z7 he
  |_=>simp only[ho] at he;exact z7 he
 |extract y i=>simp only[ho] at he;exact jf3 hA hH hG ho he
 |field t y f =>
  simp only[ho] at he;cases hu:E.P.underlying t with
  |none=>simp only[hu] at he;exact z7 he
  |some u =>
  cases u with
  |struct fs =>
   simp only[hu] at he;cases hf:fs[f]? with
   |none=>simp only[hf] at he;exact z7 he
   |some fd =>
   simp only[hf] at he
   split at he
   ·rename_i hs;exact ze8 hA hH hG ho hu hf hs he
   ·exact z7 he
  |_=>simp only[hu] at he;exact z7 he
 |index t y z =>
  simp only[ho] at he;cases hu:E.P.underlying t with
  |none=>simp only[hu] at he;exact z7 he
  |some u =>
  cases u with
  |array n e =>
   simp only[hu] at he
   split at he
   ·rename_i hs;exact ze9 hA hH hG ho hu hs he
   ·exact z7 he
  |string=>simp only[hu] at he;exact Pe5 hA hH hG ho hu he
  |_=>simp only[hu] at he;exact z7 he
 |binOp op t y z u0 =>
  have hg:(evalOp E a H (Xc2 o)).run=some (x,H')->s4 E.P o ac w (U3 W ρ H F w x H'):=hgen (λcs b e=>by rw[ho] at e;cases e)
  have hrest:(evalOp E a H (dg6 E.P o op t y z)).run=some (x,H')->s4 E.P o ac w (U3 W ρ H F w x H'):=λhe=>by
   unfold dg6 at he;cases op with
   |eql =>
    by_cases hag:agT E.P t=true
    ·simp only[hag,if_true] at he;cases hf:ka2 E.P 9 t with
     |none=>simp only[hf] at he;exact z7 he
     |some fl =>
     simp only[hf] at he;by_cases hgt:E.P.eqGuardType E.P.depth t=true
     ·simp only[hgt,if_true] at he;exact z7 he
     ·simp only[hgt,if_false] at he;exact ce9 hA hH hG ho (.inl ⟨rfl,rfl⟩) hag hf (by simpa using hgt) he
    simp only[hag,if_false] at he;cases hts:pb2 o.op.operands.toList with
    |none=>simp only[hts] at he;exact z7 he
    |some ts=>simp only[hts] at he;exact ce7 hA hH hG ho (.inl ⟨rfl,rfl⟩) hts he
   |neq =>
    by_cases hag:agT E.P t=true
    ·simp only[hag,if_true] at he;cases hf:ka2 E.P 9 t with
     |none=>simp only[hf] at he;exact z7 he
     |some fl =>
     simp only[hf] at he;by_cases hgt:E.P.eqGuardType E.P.depth t=true
     ·simp only[hgt,if_true] at he;exact z7 he
     ·simp only[hgt,if_false] at he;exact ce9 hA hH hG ho (.inr ⟨rfl,rfl⟩) hag hf (by simpa using hgt) he
    simp only[hag,if_false] at he;cases hts:pb2 o.op.operands.toList with
    |none=>simp only[hts] at he;exact z7 he
    |some ts=>simp only[hts] at he;exact ce7 hA hH hG ho (.inr ⟨rfl,rfl⟩) hts he
   |_=>exact hg he
  simp only[ho] at he;cases hu:E.P.underlying t with
  |none=>simp only[hu] at he;exact hrest he
  |some u =>
  cases u with
  |int k =>
   simp only[hu] at he;cases op<;>first | exact jf2 hA hH hG ho he | exact hg he
  |_=>simp only[hu] at he;exact hrest he
 |unOp op t y =>
  have hg:(evalOp E a H (Xc2 o)).run=some (x,H')->s4 E.P o ac w (U3 W ρ H F w x H'):=hgen (λcs b e=>by rw[ho] at e;cases e)
  simp only[ho] at he;cases op with
  |not=>exact jf0 hA hH hG ho he
  |neg =>
   cases hu:E.P.underlying t with
   |none=>simp only[hu] at he;exact hg he
   |some u =>
   cases u with
   |int k=>simp only[hu] at he;exact jf1 hA hH hG ho he
   |_=>simp only[hu] at he;exact hg he
  |_=>exact hg he
 |call c =>
  have hg:(evalOp E a H (Xc2 o)).run=some (x,H')->s4 E.P o ac w (U3 W ρ H F w x H'):=hgen (λcs b e=>by rw[ho] at e;cases e)
  simp only[ho] at he;cases hc:c.callee with
  |value y =>
   simp only[hc] at he;cases y with
   |func f=>exact Pe8 hA hH hG hcalls ho hc he
   |_=>exact Ae5 hA hH hG hcalls ho hc he
  |invoke r m=>simp only[hc] at he;exact z7 he
  |builtin b =>
   simp only[hc] at he;cases b with
   |append =>
    rcases Dc1 c.args.toList c.argTypes.toList with⟨s,y,t,u,h1,h2⟩|h
    ·rw[h1,h2] at he;simp only[le4] at he;cases hu:E.P.underlying t with
     |none=>simp only[hu] at he;exact z7 he
     |some uu =>
     cases uu with
     |slice e =>
      simp only[hu] at he
      split at he
      ·rename_i hcond;simp only[Qas,Qcb] at hcond;obtain⟨⟨⟨⟨c1,c2⟩,c3⟩,c4⟩,c5⟩:=hcond;have htu:=Qad c5;subst htu;obtain⟨ei,hei,hs,_⟩:=dd4 (P:=E.P) (t:=e) (Nat.pos_iff_ne_zero.1 (Qae c1));have hb:byT E.P e=ei.bytes:=by simp[byT,hei]
       unfold sf7 at c3;simp only[hei] at c3;cases hz:ei.zero with
       |none=>simp[hz] at c3
       |some zv =>
       simp only[hz] at c3;exact le8 hA hH hG ho hc (fa1 h1) (fa1 h2) hu hei hz (Qad c3) (hs ▸ Qae c1) (hb ▸ Qae c2) (Qbl c4) he
      ·exact z7 he
     |_=>simp only[hu] at he;exact z7 he
    ·rw[h.1] at he;exact z7 he
   |clear =>
    have he':(evalOp E a H (dg7 E.P c.args.toList c.argTypes.toList)).run=some (x,H'):=he
    revert he'
    generalize hl1:c.args.toList=l1;generalize hl2:c.argTypes.toList=l2;intro he';unfold dg7 at he'
    split at he'
    ·split at he'
     ·rename_i e hu
      split at he'
      ·rename_i z hz
       split at he'
       ·rename_i hp;exact ce8 hA hH hG ho hc (fa1 hl1) (fa1 hl2) hu hz (by rwa [Qch] at hp) he'
       ·exact z7 he'
      ·exact z7 he'
     ·exact z7 he'
    ·exact z7 he'
   |len =>
    rcases qg9 c.args.toList c.argTypes.toList with⟨y,t,h1,h2⟩|h
    ·rw[h1,h2] at he;simp only[dg8] at he;cases hu:E.P.underlying t with
     |none=>simp only[hu] at he;exact z7 he
     |some uu =>
     cases uu with
     |slice e=>simp only[hu] at he;exact kf0 hA hH hG ho hc (fa1 h1) (fa1 h2) hu he
     |array n e=>simp only[hu] at he;exact Vd3 hH ho hc (fa1 h1) (fa1 h2) hu he
     |string=>simp only[hu] at he;exact Pe6 hA hH hG ho hc (fa1 h1) (fa1 h2) hu he
     |_=>simp only[hu] at he;exact z7 he
    ·rw[h] at he;exact z7 he
   |max=>exact hg he
   |min=>exact hg he
   |_=>exact z7 he
 |convert t u y=>simp only[ho] at he;exact hgen (λcs b e=>by rw[ho] at e;cases e) he
 |makeInterface t y=>simp only[ho] at he;exact hgen (λcs b e=>by rw[ho] at e;cases e) he
 |typeAssert t y u b=>simp only[ho] at he;exact hgen (λcs b e=>by rw[ho] at e;cases e) he
 |_=>simp only[ho] at he;exact z7 he
theorem dd5:∀{cs:List b7},Za6 Cc1 cs=true->freezeCells H cs=some (cs,H)
 |[],_=>rfl
 |c::cs,h=>by
  have e:Za6 Cc1 (c::cs)=Bool.rec false (Za6 Cc1 cs) (Cc1 c):=rfl;rw[e] at h;cases hc:Cc1 c with
  |false=>rw[hc] at h;cases h
  |true =>
   rw[hc] at h;have ih:=dd5 h;have h1:freezeCell H c=some (c,H):=by
    unfold Cc1 at hc;unfold freezeCell;cases c with
    |v u=>simp only at hc ⊢;rw[hc]
    |tree=>rfl
    |fn f caps=>cases caps with
     |nil=>rfl
     |cons=>cases hc
    |_=>cases hc
   simp only[freezeCells,h1,ih]
theorem Ae6{po:PO}{blk:c7}{n:Nat}(hd:blk.dead=false)(hg:blk.g=0)(hb:∀{x:b7} {H':List c7},(evalOp E a H po).run=some (x,H')->s4 E.P o ac w (U3 W ρ H F w x H'))
  (hrun:(evalOp E a H po).run=some (.sl H.length 0 n 0,H++[blk])):s4 E.P o ac w (U3 W ρ H F w (oc4 blk 0 n) H):=by
 intro next Q hn;refine hb hrun next Q λx' w' ⟨ρ',F',a1,a2,a3⟩=>hn x' w' ?_
 have hN:(H++[blk])[H.length]?=some blk:=by simp
 obtain⟨F2,b1,b2,b3⟩:=a2.disown H.length blk hN hd;have hat:blkAt (H++[blk]) H.length 0=some blk:=by
  unfold blkAt;rw[F7,hN];simp[hd,hg]
 have htree:=nd6 a2 hat a3 b1.more b3;have hlow:∀(id:Nat) b,H[id]?=some b->((H++[blk]).set H.length { blk with own:=false })[id]?=some b:=λid b h=>by
  have:=(Qab.1 h).1
  rw[Qah (by omega),Qbb this]
  exact h
 have hext:∀(id:Nat) b,H[id]?=some b->ρ' id=ρ id:=λid b h=>by
  obtain⟨b',h1,_,_,h4⟩:=a1.heap id b h;rw[Qbb (Qab.1 h).1] at h1
  have:b'=b:=Qag (h1.symm.trans h)
  subst this;exact (h4 rfl).1
 refine⟨ρ',F2,⟨a1.ext,λid b h=>⟨b,h,rfl,Qaf _,λ_=>⟨hext id b h,rfl,Qaf _⟩⟩,λb o h=>b1.more b o (a1.more b o h),λb o h=>?_,λid b h hn=>absurd rfl (hn b h)⟩,?_,?_⟩
 ·rcases b1.new b o h with h|h
  ·exact a1.new b o h
  ·exact .inr h
 ·exact b2.pull (λid=>id) (λid b h hd=>⟨hlow id b h,rfl⟩) λ_ _ _ _ _ _ _ _ h=>h
 ·exact .val (.cell (.mem htree))
theorem me3{e es n:Nat}{z:List b7}{l:List (Nat×Nat×Arg)}(hb:∀{x:b7} {H':List c7},(evalOp E a H (.bslice e es n z l)).run=some (x,H')->s4 E.P o ac w (U3 W ρ H F w x H'))
  (he:(evalOp E a H (.tslice es n z l)).run=some (x,H')):s4 E.P o ac w (U3 W ρ H F w x H'):=by
 simp only[evalOp] at he;cases hf:wc4 z (s5 (λp=>(p.1,p.2.1,c9 E a p.2.2)) l) with
 |none=>rw[hf] at he;cases he
 |some cs =>
 rw[hf] at he
 simp only at he
 cases hp:Za6 Cc1 cs with
 |false=>rw[hp] at he;cases he
 |true =>
 rw[hp] at he;simp only[DT.run_ret] at he;injection he with he;injection he with e1 e2;subst e1 e2
 exact Ae6 (blk:={ et:=e,es,elems:=Sa3 es n cs,own:=true,dead:=false,g:=0 }) rfl rfl hb (by simp only[evalOp,hf,dd5 hp,DT.run_ret,z6,Ea6,K6])
theorem kf4 {e es by' : Nat} {z : List b7} {y c : Arg} (hb : ∀ {x : b7} {H' : List c7}, (evalOp E a H (.mksl e es by' z y c)).run = some (x, H') → s4 E.P o ac w (U3 W ρ H F w x H'))
  (he:(evalOp E a H (.tmk es by' z y c)).run=some (x,H')):s4 E.P o ac w (U3 W ρ H F w x H'):=by
 simp only[evalOp] at he
 split at he
 ·rename_i n m h1 h2;obtain⟨h3,he⟩:=DT.run_guard_some he;simp only[DT.run_ret] at he;injection he with he;injection he with e1 e2;subst e1 e2
  refine Ae6 (blk:={ et:=e,es,elems:=List.replicate n.toNat z,own:=true,dead:=false,g:=0 }) rfl rfl hb ?_;simp only[evalOp,h1,h2,DT.guard,DT.run_ite,h3,DT.run_ret,z6,Ea6,K6,if_true]
 ·cases he
theorem od0{ops:Array Oper}(hA:Ia4 ρ H F w a ac.tmps)(hH:J0 W ρ H F w)(hG:GOk E F w)(hcalls:∀f,l8 E.P E.G f (E.call f))
  (he:(evalOp E a H (ic9 E.P ops o)).run=some (x,H')):s4 E.P o ac w (U3 W ρ H F w x H'):=by
 have hs:(evalOp E a H (cOp E.P o)).run=some (x,H')->s4 E.P o ac w (U3 W ρ H F w x H'):=λh=>tf3 hA hH hG hcalls h
 unfold ic9 at he
 split at he
 ·rename_i c ho
  split at he
  ·rename_i hcb
   revert he
   generalize hl1:c.args.toList=l1;generalize hl2:c.argTypes.toList=l2;intro he;unfold qg7 at he
   split at he
   ·rename_i s y t u
    split at he
    ·rename_i e hu
     split at he
     ·rename_i hc;simp only[Qas,Qch] at hc;have htu:=Qad hc.2.2;subst htu;obtain⟨ti,hi,hi0,hi1⟩:=dd4 (Nat.ne_of_gt hc.2.1);exact Hd0 (y:=.tmp s) hA hH hG ho hcb (fa1 hl1) (fa1 hl2) hu hi (by omega) he
     ·exact hs he
    ·exact hs he
   ·exact hs he
  ·exact hs he
 ·exact hs he
theorem de4{ops:Array Oper}(tr:Nat)(hA:Ia4 ρ H F w a ac.tmps)(hH:J0 W ρ H F w)(hG:GOk E F w)(hcalls:∀f,l8 E.P E.G f (E.call f))
  (he:(evalOp E a H (Qb9 tr (ic9 E.P ops o))).run=some (x,H')):s4 E.P o ac w (U3 W ρ H F w x H'):=by
 have hs:∀{x:b7} {H':List c7},(evalOp E a H (ic9 E.P ops o)).run=some (x,H')->s4 E.P o ac w (U3 W ρ H F w x H'):=λh=>od0 hA hH hG hcalls h
 revert hs he
 generalize ic9 E.P ops o=q;intro he hs;cases q with
 |bslice e es n z l =>
  simp only[Qb9] at he
  split at he
  ·exact hs he
  ·exact me3 hs he
 |mksl e es bb z l c =>
  simp only[Qb9] at he
  split at he
  ·exact hs he
  ·exact kf4 hs he
 |asl n es y =>
  simp only[Qb9,evalOp] at he;cases he
 |_=>exact hs he
end
section
variable{W:Nat->Prop}{ρ ρ0:Rho}{H H0 H2:List c7}{F F0:Fz}{w w0:World}{k:Nat}{roots:List Nat}
structure TOk(k:Nat)(roots:List Nat):Prop where
 nodup:roots.Nodup
 first:∀i,i<k->roots[i]?=some i
def TLe(r s:List Nat):Prop:=∀(i:Nat) y,r[i]?=some y->s[i]?=some y
theorem TLe.refl(r:List Nat):TLe r r:=λ_ _ h=>h
theorem TLe.trans{r s t:List Nat}(h:TLe r s)(k:TLe s t):TLe r t:=λi y hy=>k i y (h i y hy)
theorem TOk.start(k:Nat):TOk k (List.range k):=⟨List.nodup_range,λi hi=>by rw[List.getElem?_range hi]⟩
theorem TOk.idx{id j:Nat}{r:List Nat}(hr:TOk k roots)(h:Sa4 roots id=(j,r)):TOk k r/\TLe roots r/\r[j]?=some id:=by
 obtain⟨h1,h2,h3,_⟩:=Hd5 hr.nodup h;exact⟨⟨h2,λi hi=>h3 i i (hr.first i hi)⟩,h3,h1⟩
def gAt(k j g:Nat):Nat:=match Nat.blt j k with | true=>g | false=>0
inductive TC (k:Nat) (H:List c7) (r:List Nat):b7->b7->Prop
 |unk (x:b7):TC k H r x .unk
 |ptr (id i c g j:Nat) (b:c7) (hb:blkAt H id g=some b) (hj:r[j]?=some id):TC k H r (.ptr id i c g) (.ptr j i c (gAt k j g))
 |sl (id off n g j:Nat) (b:c7) (hb:blkAt H id g=some b) (hj:r[j]?=some id):TC k H r (.sl id off n g) (.sl j off n (gAt k j g))
 |same (x:b7) (h:match x with | .ptr .. | .sl ..=>False | _=>True):TC k H r x x
inductive TV (k:Nat) (H:List c7) (r:List Nat):b7->b7->Prop
 |cell {x z:b7} (hx:me2 x=true) (h:TC k H r x z):TV k H r x z
 |agg (cs ds:List b7) (hl:ds.length=cs.length) (h:∀(i:Nat) x z,cs[i]?=some x->ds[i]?=some z->TC k H r x z):TV k H r (.agg cs) (.agg ds)
 |fn (f:FuncId) (cs ds:List b7) (hl:ds.length=cs.length) (h:∀(i:Nat) x z,cs[i]?=some x->ds[i]?=some z->TC k H r x z):TV k H r (.fn f cs) (.fn f ds)
 |tup (l:List b7):TV k H r (.tup l) (.tup l)
inductive TW (k:Nat) (H:List c7) (r:List Nat):b7->b7->Prop
 |val {x z:b7} (hx:∀l,x≠.tup l) (h:TV k H r x z):TW k H r x z
 |tup (cs ds:List b7) (hl:ds.length=cs.length) (h:∀(i:Nat) x z,cs[i]?=some x->ds[i]?=some z->TV k H r x z):TW k H r (.tup cs) (.tup ds)
theorem TC.le{r s:List Nat}{x z:b7}(h:TC k H r x z)(hle:TLe r s):TC k H s x z:=by
 cases h with
 |unk x=>exact .unk x
 |ptr id i c g j b hb hj=>exact .ptr id i c g j b hb (hle _ _ hj)
 |sl id off n g j b hb hj=>exact .sl id off n g j b hb (hle _ _ hj)
 |same x h=>exact .same x h
theorem TV.le{r s:List Nat}{x z:b7}(h:TV k H r x z)(hle:TLe r s):TV k H s x z:=by
 cases h with
 |cell hx h=>exact .cell hx (h.le hle)
 |agg cs ds hl h=>exact .agg cs ds hl λi x z hx hz=>(h i x z hx hz).le hle
 |fn f cs ds hl h=>exact .fn f cs ds hl λi x z hx hz=>(h i x z hx hz).le hle
 |tup l=>exact .tup l
theorem TW.le{r s:List Nat}{x z:b7}(h:TW k H r x z)(hle:TLe r s):TW k H s x z:=by
 cases h with
 |val hx h=>exact .val hx (h.le hle)
 |tup cs ds hl h=>exact .tup cs ds hl λi x z hx hz=>(h i x z hx hz).le hle
theorem Ae7{x z:b7}{r:List Nat}(hr:TOk k roots)(h:Gd0 k H roots x=(z,r)):TOk k r/\TLe roots r/\TC k H r x z:=by
 have hsame:∀{y:b7},(y,roots)=(z,r)->TC k H roots x y->TOk k r/\TLe roots r/\TC k H r x z:=λ{y} e hc=>by
  injection e with e1 e2;subst e1 e2;exact⟨hr,.refl _,hc⟩
 unfold Gd0 at h;cases x with
 |ptr id i c g =>
  simp only at h
  cases hb:blkAt H id g with
  |none=>simp only[hb] at h;exact hsame h (.unk _)
  |some b =>
   simp only[hb] at h;cases hi:Sa4 roots id with
   |mk j r2 =>
    simp only[hi] at h;injection h with e1 e2;subst e1 e2;obtain⟨h1,h2,h3⟩:=hr.idx hi;exact⟨h1,h2,.ptr id i c g j b hb h3⟩
 |sl id off n g =>
  simp only at h
  cases hb:blkAt H id g with
  |none=>simp only[hb] at h;exact hsame h (.unk _)
  |some b =>
   simp only[hb] at h;cases hi:Sa4 roots id with
   |mk j r2 =>
    simp only[hi] at h;injection h with e1 e2;subst e1 e2;obtain⟨h1,h2,h3⟩:=hr.idx hi;exact⟨h1,h2,.sl id off n g j b hb h3⟩
 |_=>exact hsame h (.same _ trivial)
theorem Hd7:∀{l z:List b7} {roots r:List Nat},TOk k roots->cd3 k H l roots=(z,r)->TOk k r/\TLe roots r/\z.length=l.length/\∀(i:Nat) x y,l[i]?=some x->z[i]?=some y->TC k H r x y
 |[],z,roots,r,hr,h=>by
  simp only[cd3] at h;injection h with e1 e2;subst e1 e2;exact⟨hr,.refl _,rfl,λi x y hx=>by simp at hx⟩
 |x::l,z,roots,r,hr,h=>by
  simp only[cd3] at h;cases h1:Gd0 k H roots x with
  |mk y r1 =>
  simp only[h1] at h;cases h2:cd3 k H l r1 with
  |mk l2 r2 =>
  simp only[h2] at h;injection h with e1 e2;subst e1 e2;obtain⟨a1,a2,a3⟩:=Ae7 hr h1;obtain⟨b1,b2,b3,b4⟩:=Hd7 a1 h2;refine⟨b1,a2.trans b2,by simp[b3],λi u v hu hv=>?_⟩
  cases i with
  |zero=>simp at hu hv;subst hu hv;exact a3.le b2
  |succ i=>exact b4 i u v (by simpa using hu) (by simpa using hv)
theorem de5{x z:b7}{r:List Nat}(hr:TOk k roots)(h:Cc2 k H roots x=(z,r)):TOk k r/\TLe roots r/\TV k H r x z:=by
 have h1:∀(hx:me2 x=true),Gd0 k H roots x=(z,r)->TOk k r/\TLe roots r/\TV k H r x z:=λhx h=>by
  obtain⟨a1,a2,a3⟩:=Ae7 hr h;exact⟨a1,a2,.cell hx a3⟩
 cases x with
 |fn f caps =>
  simp only[Cc2] at h;cases h2:cd3 k H caps roots with
  |mk l r2 =>
  simp only[h2] at h;injection h with e1 e2;subst e1 e2;obtain⟨b1,b2,b3,b4⟩:=Hd7 hr h2;exact⟨b1,b2,.fn f caps l b3 b4⟩
 |agg caps =>
  simp only[Cc2] at h;cases h2:cd3 k H caps roots with
  |mk l r2 =>
  simp only[h2] at h;injection h with e1 e2;subst e1 e2;obtain⟨b1,b2,b3,b4⟩:=Hd7 hr h2;exact⟨b1,b2,.agg caps l b3 b4⟩
 |tup l =>
  simp only[Cc2,Gd0] at h;injection h with e1 e2;subst e1 e2;exact⟨hr,.refl _,.tup l⟩
 |_=>exact h1 rfl h
theorem de6:∀{l z:List b7} {roots r:List Nat},TOk k roots->Wc9 k H l roots=(z,r)->TOk k r/\TLe roots r/\z.length=l.length/\∀(i:Nat) x y,l[i]?=some x->z[i]?=some y->TV k H r x y
 |[],z,roots,r,hr,h=>by
  simp only[Wc9] at h;injection h with e1 e2;subst e1 e2;exact⟨hr,.refl _,rfl,λi x y hx=>by simp at hx⟩
 |x::l,z,roots,r,hr,h=>by
  simp only[Wc9] at h;cases h1:Cc2 k H roots x with
  |mk y r1 =>
  simp only[h1] at h;cases h2:Wc9 k H l r1 with
  |mk l2 r2 =>
  simp only[h2] at h;injection h with e1 e2;subst e1 e2;obtain⟨a1,a2,a3⟩:=de5 hr h1;obtain⟨b1,b2,b3,b4⟩:=de6 a1 h2;refine⟨b1,a2.trans b2,by simp[b3],λi u v hu hv=>?_⟩
  cases i with
  |zero=>simp at hu hv;subst hu hv;exact a3.le b2
  |succ i=>exact b4 i u v (by simpa using hu) (by simpa using hv)
theorem Hd8{x z:b7}{r:List Nat}(hr:TOk k roots)(h:Gd1 k H roots x=(z,r)):TOk k r/\TLe roots r/\TW k H r x z:=by
 have h1:(∀l,x≠.tup l)->Cc2 k H roots x=(z,r)->TOk k r/\TLe roots r/\TW k H r x z:=λhx h=>by
  obtain⟨a1,a2,a3⟩:=de5 hr h;exact⟨a1,a2,.val hx a3⟩
 cases x with
 |tup caps =>
  simp only[Gd1] at h;cases h2:Wc9 k H caps roots with
  |mk l r2 =>
  simp only[h2] at h;injection h with e1 e2;subst e1 e2;obtain⟨b1,b2,b3,b4⟩:=de6 hr h2;exact⟨b1,b2,.tup caps l b3 b4⟩
 |_=>exact h1 (λ_ e=>by cases e) h
theorem Hd9:∀{l z:List b7} {roots r:List Nat},TOk k roots->cd4 k H l roots=(z,r)->TOk k r/\TLe roots r/\z.length=l.length/\∀(i:Nat) x y,l[i]?=some x->z[i]?=some y->TW k H r x y
 |[],z,roots,r,hr,h=>by
  simp only[cd4] at h;injection h with e1 e2;subst e1 e2;exact⟨hr,.refl _,rfl,λi x y hx=>by simp at hx⟩
 |x::l,z,roots,r,hr,h=>by
  simp only[cd4] at h;cases h1:Gd1 k H roots x with
  |mk y r1 =>
  simp only[h1] at h;cases h2:cd4 k H l r1 with
  |mk l2 r2 =>
  simp only[h2] at h;injection h with e1 e2;subst e1 e2;obtain⟨a1,a2,a3⟩:=Hd8 hr h1;obtain⟨b1,b2,b3,b4⟩:=Hd9 a1 h2;refine⟨b1,a2.trans b2,by simp[b3],λi u v hu hv=>?_⟩
  cases i with
  |zero=>simp at hu hv;subst hu hv;exact a3.le b2
  |succ i=>exact b4 i u v (by simpa using hu) (by simpa using hv)
def reG(k j:Nat)(b:c7):c7:=match Nat.blt j k with | true=>b | false=>{ b with g:=0 }
theorem Dc2:∀{roots:List Nat} {j0:Nat} {H2:List c7},eb4 k H j0 roots=some H2->H2.length=roots.length/\∀(j:Nat) id,roots[j]?=some id->∃b,H[id]?=some b/\H2[j]?=some (reG k (j0+j) b)
 |[],j0,H2,h=>by
  simp only[eb4] at h
  simp_all
 |id::roots,j0,H2,h=>by
  simp only[eb4,F7] at h;cases hb:H[id]? with
  |none=>simp[hb] at h
  |some b =>
  simp only[hb] at h;cases hr:eb4 k H (j0+1) roots with
  |none=>simp[hr] at h
  |some l =>
  simp only[hr] at h;injection h with h;subst h
  obtain⟨h1,h2⟩:=Dc2 hr;refine⟨by simp[h1],λj id' hj=>?_⟩
  cases j with
  |zero=>simp at hj;subst hj;exact⟨b,hb,rfl⟩
  |succ j =>
   grind
theorem eb6(j:Nat)(b:c7):(reG k j b).dead=b.dead:=by unfold reG;split<;>rfl
theorem me4(j:Nat)(b:c7):(reG k j b).own=b.own:=by unfold reG;split<;>rfl
theorem Rb5(j:Nat)(b:c7):(reG k j b).es=b.es:=by unfold reG;split<;>rfl
theorem mb5(j:Nat)(b:c7):(reG k j b).elems=b.elems:=by unfold reG;split<;>rfl
theorem Yc1(j:Nat)(b:c7):(reG k j b).et=b.et:=by unfold reG;split<;>rfl
theorem Xf1(j:Nat)(b:c7):(reG k j b).g=gAt k j b.g:=by unfold reG gAt;split<;>rfl
section
variable(hr:TOk k roots)(hH:J0 W ρ H F w)(hb:eb4 k H 0 roots=some H2)
include hb
theorem dd6{j:Nat}{c:c7}(hc:H2[j]?=some c):∃id b,roots[j]?=some id/\(roots[j]?).getD 0=id/\H[id]?=some b/\c=reG k j b:=by
 obtain⟨hl,hat⟩:=Dc2 hb
 grind
include hr hH in
theorem Oc8:J0 W (λj=>ρ ((roots[j]?).getD 0)) H2 F w:=by
 refine⟨λj c hc hd=>?_,λj j' c c' hc hc' hd hd' ho hne=>?_,hH.frz,hH.new⟩
 ·obtain⟨id,b,h1,h2,h3,h4⟩:=dd6 hb hc;subst h4;rw[eb6] at hd;obtain⟨cc,t,fr,hB⟩:=hH.blk id b h3 hd;simp only[h2];exact⟨cc,t,fr,hB.obj,hB.room,by rw[mb5,Rb5];exact hB.len,by rw[mb5,Rb5];exact hB.rows,by rw[mb5,Rb5];exact hB.cell,by rw[me4,Yc1];exact hB.own,by rw[me4,mb5,Rb5];exact hB.kept⟩
 ·obtain⟨id,b,h1,h2,h3,h4⟩:=dd6 hb hc;obtain⟨id',b',h1',h2',h3',h4'⟩:=dd6 hb hc';subst h4 h4';simp only[h2,h2'];rw[eb6] at hd hd';rw[me4] at ho;refine hH.apart id id' b b' h3 h3' hd hd' ho λe=>hne ?_
  subst e;obtain⟨a1,a2⟩:=Qab.1 h1;obtain⟨b1,b2⟩:=Qab.1 h1';exact (List.getElem_inj hr.nodup).1 (a2.trans b2.symm)
theorem Oc9{x z:b7}{x':Value}(h:TC k H roots x z)(hx:ea9 ρ H F w x x'):ea9 (λj=>ρ ((roots[j]?).getD 0)) H2 F w z x':=by
 obtain⟨hl,hat⟩:=Dc2 hb;cases h with
 |unk x=>exact .unk _
 |ptr id i c g j b hb1 hj =>
  obtain⟨hb2,hd2,hg2⟩:=H4 hb1;obtain⟨b',k1,k2⟩:=hat j id hj
  have:b'=b:=Qag (k1.symm.trans hb2)
  subst this;rw[Qar] at k2;obtain⟨ad,b3,e,m1,m2,m3,m4⟩:=Za9 (.val (.cell hx))
  have:b3=b':=Qag (m1.symm.trans hb2)
  subst this;rw[e];refine .ptr j i c _ ad _ k2 (by rw[eb6];exact hd2) (by rw[Xf1,hg2];exact Qaf _) λ_=>?_
  rw[m4 hg2,Rb5];simp[hj]
 |sl id off n g j b hb1 hj =>
  obtain⟨hb2,hd2,hg2⟩:=H4 hb1;obtain⟨b',k1,k2⟩:=hat j id hj
  have:b'=b:=Qag (k1.symm.trans hb2)
  subst this;rw[Qar] at k2;obtain⟨ad,cap,b3,e,m1,m2,m3,m4,m5,m6,m7⟩:=lb3 (.val (.cell hx))
  have:b3=b':=Qag (m1.symm.trans hb2)
  subst this;rw[e];refine .sl j off n _ ad cap _ k2 (by rw[eb6];exact hd2) (by rw[Xf1,hg2];exact Qaf _) m4 m5 m6 λ_=>?_
  have:=m7 hg2
  rw[Rb5,mb5];simpa [hj] using this
 |same x hs =>
  cases hx with
  |mem h=>exact .mem h
  |v=>exact .v _
  |ptr=>exact hs.elim
  |sl=>exact hs.elim
  |tptr cs a vs h1 h2 h3 h4=>exact .tptr cs a vs h1 h2 h3 h4
  |unk x'=>exact .unk _
theorem Ae8{x z:b7}{x':Value}(h:TV k H roots x z)(hx:ra2 ρ H F w x x'):ra2 (λj=>ρ ((roots[j]?).getD 0)) H2 F w z x':=by
 cases h with
 |cell hbare h =>
  cases hx with
  |cell hx=>exact .cell (Oc9 hb h hx)
  |_=>cases hbare
 |agg cs ds hl h =>
  obtain⟨vs,e,hl2,h2⟩:=Ja5 (.val hx);rw[e];refine .agg ds vs (hl.trans hl2) λi y y' hy hy'=>?_
  have hi:i<cs.length:=hl ▸ (Qab.1 hy).1;exact Oc9 hb (h i _ y (Qaa hi) hy) (h2 i _ y' (Qaa hi) hy')
 |fn f cs ds hl h =>
  obtain⟨vs,e,hl2,h2⟩:=dc3 (.val hx);rw[e];refine .fn f ds vs (hl.trans hl2) λi y y' hy hy'=>?_
  have hi:i<cs.length:=hl ▸ (Qab.1 hy).1;exact Oc9 hb (h i _ y (Qaa hi) hy) (h2 i _ y' (Qaa hi) hy')
 |tup l =>
  cases hx with
  |cell hx=>cases hx with
   |mem h=>cases h
theorem me5{x z:b7}{x':Value}(h:TW k H roots x z)(hx:K8 ρ H F w x x'):K8 (λj=>ρ ((roots[j]?).getD 0)) H2 F w z x':=by
 cases h with
 |val hnt h =>
  cases hx with
  |val hx=>exact .val (Ae8 hb h hx)
  |tup cs vs hl h2=>exact absurd rfl (hnt cs)
 |tup cs ds hl h =>
  obtain⟨vs,e,hl2,h2⟩:=le7 hx;rw[e];refine .tup ds vs (hl.trans hl2) λi y y' hy hy'=>?_
  have hi:i<cs.length:=hl ▸ (Qab.1 hy).1;exact Ae8 hb (h i _ y (Qaa hi) hy) (h2 i _ y' (Qaa hi) hy')
end
end
section
variable{W:Nat->Prop}{ρ ρ0:Rho}{H H0:List c7}{F F0:Fz}{w w0:World}{E:Env}
def Inv(W:Nat->Prop)(ρ0:Rho)(H0:List c7)(F0:Fz)(w0:World)(s:St)(ac:Act)(w:World):Prop :=
 ac.defers=[]/\∃ρ F,Adv W ρ0 H0 F0 w0 ρ s.H F w/\J0 W ρ s.H F w/\Ia4 ρ s.H F w s.a ac.tmps
theorem Pc0(a:List b7)(dst:Option Nat)(x:b7):putA a dst x=match dst with | some d=>a.set d x | none=>a:=by
 have:putA a dst x=Option.rec (motive:=λ_=>List b7) a (λd=>setAt a d x) dst:=rfl
 rw[this];cases dst with
 |none=>rfl
 |some d=>simp[H6]
theorem Ia4.putA{a:List b7}{ac:Act}(h:Ia4 ρ H F w a ac.tmps)(dst:Option Nat){x:b7}{x':Value}(hx:K8 ρ H F w x x'):Ia4 ρ H F w (Ev.putA a dst x) (ac.put dst x').tmps:=by
 rw[Pc0];cases dst with
 |none=>exact h
 |some d=>exact h.put d hx
theorem E2{ac:Act}(dst:Option Nat)(x:Value):(ac.put dst x).defers=ac.defers:=by cases dst<;>rfl
theorem Ae9{s:St}{n:Nat}{x:b7}(hx:x≠.unk)(h:c9 E s.a (.t n)=x):setAt s.a n x=s.a:=by
 rw[Mb7] at h;rw[H6]
 rcases Qaq n s.a.length with hlt|hge
 ·rw[Qaa hlt] at h;simp only[Option.getD_some] at h;subst h
  simp_all
 simp_all
theorem vd3 (s : St) (dst : Option Nat) (g : Nat × Bool) (hide : List Nat) (op : PO) : (ob8 E s ⟨dst, some g, hide, op⟩).run = (match c9 E s.a (.t g.1) with
   |.v (.bool b)=>.ite (match g.2 with | true=>b | false=>!b) (Ad0 E s ⟨dst,some g,hide,op⟩) (.ret ⟨putA s.a dst (.v (.tuple #[])),s.H⟩)
   |.v (.tuple _)=>.ret ⟨putA s.a dst (.v (.tuple #[])),s.H⟩
   |_=>.fail:DT St).run:=by
 obtain⟨d,want⟩:=g
 have e : ob8 E s ⟨dst, some (d, want), hide, op⟩ = (match c9 E s.a (.t d) with
   | .v (.bool b) => Bool.rec (motive := fun _ => DT St)
     (.ite b (.ret ⟨putA (setAt s.a d (.v (.bool true))) dst (.v (.tuple #[])),s.H⟩) (Ad0 E ⟨setAt s.a d (.v (.bool false)),s.H⟩ ⟨dst,some (d,want),hide,op⟩))
     (.ite b (Ad0 E ⟨setAt s.a d (.v (.bool true)),s.H⟩ ⟨dst,some (d,want),hide,op⟩) (.ret ⟨putA (setAt s.a d (.v (.bool false))) dst (.v (.tuple #[])),s.H⟩)) want
   |.v (.tuple _)=>.ret ⟨putA s.a dst (.v (.tuple #[])),s.H⟩
   |_=>.fail):=rfl
 rw[e];have hk:∀b,c9 E s.a (.t d)=.v (.bool b)->setAt s.a d (.v (.bool b))=s.a:=λb h=>Ae9 (E:=E) (by simp) h
 revert hk
 generalize c9 E s.a (.t d)=u;intro hk;cases u with
 |v x =>
  cases x with
  |bool b =>
   have:=hk b rfl
   cases want<;>cases b<;>simp only[DT.run_ite,this]<;>rfl
  |_=>rfl
 |_=>rfl
theorem oc9{ops:Array Oper}{tmps:Array Value}{j d:Nat}{oj:Oper}{b:Bool}(hj:ops[j]?=some oj)(hd:oj.dst=some d)(h:tmps[d]?=some (.bool b)):yielded ops tmps j=some b:=by
 simp[yielded,hj,hd,h]
theorem dc5{ops:Array Oper}{tmps:Array Value}{j d:Nat}{oj:Oper}{vs:Array Value}(hj:ops[j]?=some oj)(hd:oj.dst=some d)(h:tmps[d]?=some (.tuple vs)):yielded ops tmps j=none:=by
 simp[yielded,hj,hd,h]
theorem vd4{ops:Array Oper}{o:Oper}{g:Option (Nat×Bool)}{hide:List Nat}{op:PO}{s s':St}{ac:Act}(hg:la5 ops o=some g)(hA:Ia4 ρ H F w s.a ac.tmps)
  (he:(ob8 E s ⟨o.dst,g,hide,op⟩).run=some s') :
  (Region.wanted o (yielded ops ac.tmps)=true/\(Ad0 E s ⟨o.dst,g,hide,op⟩).run=some s')\/(Region.wanted o (yielded ops ac.tmps)=false/\s'=⟨putA s.a o.dst (.v (.tuple #[])),s.H⟩):=by
 unfold la5 at hg;unfold Region.wanted;cases hgo:o.guard with
 |none =>
  simp only[hgo] at hg ⊢;injection hg with hg;subst hg;exact .inl ⟨trivial,he⟩
 |some jw =>
  obtain⟨j,want⟩:=jw;simp only[hgo] at hg ⊢;cases hj:ops[j]? with
  |none=>simp[hj] at hg
  |some oj =>
  simp only[hj] at hg;cases hd:oj.dst with
  |none=>simp[hd] at hg
  |some d =>
  simp only[hd] at hg;injection hg with hg;subst hg;rw[vd3] at he;have hev:=Mb7 E s.a d;have hrel:∀v,c9 E s.a (.t d)=.v v->ac.tmps[d]?=some v:=λv hv=>by
   rw[hev] at hv
   rcases Qaq d s.a.length with hlt|hge
   ·rw[Qaa hlt] at hv;have hlt':d<ac.tmps.size:=hA.1 ▸ hlt;have h1:=hA.2 d _ _ (Qaa hlt) (Qac hlt');simp only[Option.getD_some] at hv;rw[hv] at h1;rw[Qac hlt',fa0 h1]
   ·rw[Qat hge] at hv;cases hv
  revert he hrel
  generalize c9 E s.a (.t d)=u;intro he hrel
  split at he
  ·rename_i b;have hb:=hrel _ rfl;rw[oc9 hj hd hb]
   rcases DT.run_ite_some he with⟨h1,h2⟩|⟨h1,h2⟩
   ·grind
   ·refine .inr ⟨?_,?_⟩
    ·grind
    ·simpa using h2.symm
  ·rename_i vs;have hb:=hrel _ rfl;rw[dc5 hj hd hb]
   simp_all
  ·cases he
theorem de7{P:Program}{ops:Array Oper}{o:Oper}{r:List Oper}{l:List PI}(h:Xc3 P ops (o::r)=some l):∃g l',la5 ops o=some g/\Xc3 P ops r=some l'/\l=⟨o.dst,g,[],ic9 P ops o⟩::l':=by
 simp only[Xc3] at h
 grind
section
variable(hG0:GOk E F0 w0)(hcalls:∀f,l8 E.P E.G f (E.call f))
include hG0 hcalls
theorem tf4{ops:Array Oper}{o:Oper}{g:Option (Nat×Bool)}{s s':St}{ac:Act}{i:Nat}{Q:Exit->Act->World->Prop}{K:Act->World->Prop}(hi:ops[i]?=some o)(hg:la5 ops o=some g)
  (hI:Inv W ρ0 H0 F0 w0 s ac w) (he:(ob8 E s ⟨o.dst,g,[],ic9 E.P ops o⟩).run=some s') (hK:∀ac' w',Inv W ρ0 H0 F0 w0 s' ac' w'->K ac' w'):wpOp E.P ops Q i K ac w:=by
 obtain⟨hd,ρ,F,hAdv,hH,hA⟩:=hI;unfold wpOp;simp only[hi]
 rcases vd4 hg hA he with⟨hw,he⟩|⟨hw,he⟩
 ·rw[if_pos hw];refine .inl ?_;unfold Ad0 at he;obtain⟨⟨x,H'⟩,h1,h2⟩:=DT.run_bind_some he;have h1':(evalOp E s.a s.H (ic9 E.P ops o)).run=some (x,H'):=h1;refine od0 hA hH (hG0.adv hAdv) hcalls h1' K Q λx' w' hp=>?_
  obtain⟨ρ',F',a1,a2,a3⟩:=hp;have h2':some (⟨putA s.a o.dst x,H'⟩:St)=some s':=h2;injection h2' with h2';subst h2';exact hK _ _ ⟨(E2 _ _).trans hd,ρ',F',hAdv.trans a1,a2,(hA.adv a1).putA o.dst a3⟩
 ·rw[if_neg (by simp[hw])]
  subst he;exact hK _ _ ⟨(E2 _ _).trans hd,ρ,F,hAdv,hH,hA.putA o.dst (.ofv _)⟩
theorem de8{ops:Array Oper}{Q:Exit->Act->World->Prop}:∀(r:List Oper) (k:Nat) (l:List PI) (s s':St) (ac:Act) (w:World),ops.toList.drop k=r->Xc3 E.P ops r=some l->Inv W ρ0 H0 F0 w0 s ac w->(U4 E l s).run=some s' ->
  (∀ac' w',Inv W ρ0 H0 F0 w0 s' ac' w'->Q .normal ac' w')->wpOps E.P ops Q (List.range' k r.length) ac w
 |[],k,l,s,s',ac,w,hr,hl,hI,he,hQ=>by
  simp only[Xc3] at hl;injection hl with hl;subst hl;have he':some s=some s':=he;injection he' with he';subst he';exact hQ ac w hI
 |o::r,k,l,s,s',ac,w,hr,hl,hI,he,hQ=>by
  obtain⟨g,l',h1,h2,rfl⟩:=de7 hl;have he':((ob8 E s ⟨o.dst,g,[],ic9 E.P ops o⟩).bind (U4 E l')).run=some s':=he;obtain⟨s1,h3,h4⟩:=DT.run_bind_some he';have hi:ops[k]?=some o:=by
   have:(ops.toList.drop k)[0]?=some o:=by rw[hr];rfl
   simpa using this
  rw[show (o::r).length=r.length+1 from rfl,List.range'_succ,wpOps_cons]
  refine tf4 hG0 hcalls hi h1 hI h3 λac' w' hI'=>?_
  refine de8 r (k+1) l' s1 s' ac' w' ?_ h2 hI' h4 hQ;rw[<- List.drop_drop,hr];rfl
end
def toX:l4->Exit
 |.normal=>.normal
 |.exit id=>.exit id
 |.ret=>.ret
inductive V9 (P:Program):Code->PC->Prop
 |skip:V9 P .skip .skip
 |ops (id:Nat) (ops:Array Oper) (l:List PI) (h:Xc3 P ops ops.toList=some l):V9 P (.region id ops false) (.ops l)
 |draw (id:Nat) (ops:Array Oper) (dsts:List Nat) (asq l:List PI) (ps:List (PO×PO)) (h:bb6 P ops=.draw dsts asq l ps):V9 P (.region id ops true) (.draw dsts asq l ps)
 |seq {a b:Code} {x y:PC} (ha:V9 P a x) (hb:V9 P b y):V9 P (.seq a b) (.seq x y)
 |cond (c:Operand) {a b:Code} {x y:PC} (ha:V9 P a x) (hb:V9 P b y):V9 P (.cond c a b) (.cond (o7 c) x y)
 |block (id:Nat) {a:Code} {x:PC} (ha:V9 P a x):V9 P (.block id a) (.block id x)
 |loop (keep:List Nat) {a:Code} {x:PC} (ha:V9 P a x):V9 P (.loop a) (.loop keep x)
 |scope {a:Code} {x:PC} (ha:V9 P a x):V9 P (.scope a) x
 |label (l:Nat):V9 P (.label l) .skip
 |exit (id:Nat):V9 P (.exit id) (.exit id)
 |ret:V9 P .ret .ret
 |bad (c:Code):V9 P c .bad
theorem Lf1(P:Program):∀c:Code,V9 P c (cd8 P c):=by
 intro c
 induction c with
 |skip=>exact .skip
 |region id ops d =>
  cases d with
  |false =>
   show V9 P _ (match Xc3 P ops ops.toList with | some l=>PC.ops l | none=>.bad)
   cases h:Xc3 P ops ops.toList with
   |none=>exact .bad _
   |some l=>exact .ops id ops l h
  |true =>
   show V9 P _ (bb6 P ops);have hT:∀tr,(∃a b c d,pb3 tr P ops=.draw a b c d)\/pb3 tr P ops=.bad:=λtr=>by
    unfold pb3 Gd4
    simp only
    split
    ·split
     ·exact .inl ⟨_,_,_,_,rfl⟩
     ·exact .inr rfl
    ·exact .inr rfl
   have hc:(∃a b c d,bb6 P ops=.draw a b c d)\/bb6 P ops=.bad:=by
    unfold bb6
    grind
   rcases hc with⟨a,b,c,d,h⟩|h
   ·rw[h];exact .draw id ops a b c d h
   ·rw[h];exact .bad _
 |seq a b ha hb=>exact .seq ha hb
 |cond c a b ha hb=>exact .cond c ha hb
 |block id a ha=>exact .block id ha
 |loop a ha=>exact .loop _ ha
 |scope a ha=>exact .scope ha
 |label l=>exact .label l
 |exit id=>exact .exit id
 |ret=>exact .ret
 |_=>exact .bad _
theorem V9.note{P:Program}{c:Code}{x:PC}(h:V9 P c x)(n ret:Nat):∀(out:Nat) (ex:Nat->Nat),V9 P c (Ev.note n ret x out ex):=by
 induction h with
 |skip=>exact λ_ _=>.skip
 |ops id ops l h=>exact λ_ _=>.ops id ops l h
 |draw id ops dsts asq l ps h=>exact λ_ _=>.draw id ops dsts asq l ps h
 |seq ha hb iha ihb=>exact λout ex=>.seq (iha _ _) (ihb _ _)
 |cond c ha hb iha ihb=>exact λout ex=>.cond c (iha _ _) (ihb _ _)
 |block id ha ih=>exact λout ex=>.block id (ih _ _)
 |loop keep ha ih=>exact λout ex=>.loop _ (ih _ _)
 |scope ha ih=>exact λout ex=>.scope (ih out ex)
 |label l=>exact λ_ _=>.label l
 |exit id=>exact λ_ _=>.exit id
 |ret=>exact λ_ _=>.ret
 |bad c=>exact λ_ _=>.bad c
theorem Inv.keep{s:St}{ac:Act}{a:List b7}(h:Inv W ρ0 H0 F0 w0 s ac w)(ha:a.length=s.a.length)(hat:∀(i:Nat) x,a[i]?=some x->x=.unk\/s.a[i]?=some x):Inv W ρ0 H0 F0 w0 ⟨a,s.H⟩ ac w:=by
 obtain⟨hd,ρ,F,h1,h2,h3⟩:=h;refine⟨hd,ρ,F,h1,h2,ha.trans h3.1,λi x x' hx hx'=>?_⟩
 rcases hat i x hx with rfl|h
 ·exact .unk _
 ·exact h3.2 i x x' h hx'
theorem Dc3(keep:List Nat):∀(l:List b7) (k:Nat),(X6 keep l k).length=l.length/\∀(i:Nat) x,(X6 keep l k)[i]?=some x->x=.unk\/l[i]?=some x
 |[],k=>⟨rfl,λi x h=>by simp[X6] at h⟩
 |y::l,k=>by
  obtain⟨h1,h2⟩:=Dc3 keep l (k+1);have e:X6 keep (y::l) k=Bool.rec .unk y (Hb1 k keep)::X6 keep l (k+1):=rfl;rw[e];refine⟨by simp[h1],λi x hx=>?_⟩
  cases i with
  |zero =>
   simp at hx
   subst hx;cases Hb1 k keep
   ·exact .inl rfl
   ·exact .inr rfl
  |succ i=>exact h2 i x (by simpa using hx)
theorem dd7{roots:List Nat}{H2:List c7}(hr:TOk H0.length roots)(hb:eb4 H0.length H 0 roots=some H2)(h:Adv W ρ0 H0 F0 w0 ρ H F w):Adv W ρ0 H0 F0 w0 (λj=>ρ ((roots[j]?).getD 0)) H2 F w:=by
 obtain⟨hl,hat⟩:=Dc2 hb;refine⟨h.ext,λid b hid=>?_,h.more,h.new,λid b' hid hn=>?_⟩
 ·have hlt:=(Qab.1 hid).1;obtain⟨b1,h1,h2,h3,h4⟩:=h.heap id b hid;have hroot:=hr.first id hlt;obtain⟨b2,k1,k2⟩:=hat id id hroot
  have:b2=b1:=Qag (k1.symm.trans h1)
  subst this;have hre:reG H0.length (0+id) b2=b2:=by
   rw[Qar];unfold reG
   have:Nat.blt id H0.length=true:=by simpa [Qch] using hlt
   rw[this]
  simp_all
 ·obtain⟨id',b,h1,h2,h3,h4⟩:=dd6 hb hid;simp only[h2];by_cases hlt:id<H0.length
  ·have hroot:=hr.first id hlt
   have:id'=id:=Qag (h1.symm.trans hroot)
   subst this;refine h.fresh id' b h3 λbb hbb hg=>hn bb hbb ?_
   rw[h4]
   have:Nat.blt id' H0.length=true:=by simpa [Qch] using hlt
   simp only[reG,this];exact hg
  ·refine h.fresh id' b h3 λbb hbb _=>?_
   have hlt':=(Qab.1 hbb).1;have hroot:=hr.first id' hlt';obtain⟨a1,a2⟩:=Qab.1 h1;obtain⟨b1,b2⟩:=Qab.1 hroot
   have:=(List.getElem_inj hr.nodup).1 (a2.trans b2.symm)
   omega
theorem Inv.tidy{s s':St}{ac:Act}(h:Inv W ρ0 H0 F0 w0 s ac w)(he:(Ev.tidy H0.length s).run=some s'):Inv W ρ0 H0 F0 w0 s' ac w:=by
 obtain⟨hd,ρ,F,h1,h2,h3⟩:=h;unfold Ev.tidy at he;cases ht:cd4 H0.length s.H s.a (List.range H0.length) with
 |mk a roots =>
 simp only[ht] at he;cases hb:eb4 H0.length s.H 0 roots with
 |none=>simp[hb] at he
 |some H2 =>
 simp only[hb] at he;have he':some (⟨a,H2⟩:St)=some s':=he;injection he' with he';subst he';obtain⟨k1,_,k3,k4⟩:=Hd9 (TOk.start _) ht;refine⟨hd,_,F,dd7 k1 hb h1,Oc8 k1 h2 hb,k3.trans h3.1,λi x x' hx hx'=>?_⟩
 have hi:i<s.a.length:=k3 ▸ (Qab.1 hx).1;exact me5 hb (k4 i _ x (Qaa hi) hx) (h3.2 i _ x' (Qaa hi) hx')
def Qe0(E:Env):Prop:=∀(W:Nat->Prop) (ρ0:Rho) (H0:List c7) (F0:Fz) (w0:World),GOk E F0 w0 ->
 ∀(id:Nat) (ops:Array Oper) (dsts:List Nat) (asq l:List PI) (ps:List (PO×PO)),bb6 E.P ops=.draw dsts asq l ps ->
 ∀(s x s' ),(M2 E H0.length (.draw dsts asq l ps) s).run=some (x,s')->∀(ac:Act) (w:World) (Q:Exit->Act->World->Prop),Inv W ρ0 H0 F0 w0 s ac w ->
 (∀ac' w',Inv W ρ0 H0 F0 w0 s' ac' w'->Q (toX x) ac' w')->(Code.region id ops true).wp E.P Q ac w
theorem Id0{c:Code}{y:PC}{keep:List Nat} (ih:∀(s:St) (x:l4) (s':St),(M2 E H0.length y s).run=some (x,s')->∀(ac:Act) (w:World) (Q:Exit->Act->World->Prop),Inv W ρ0 H0 F0 w0 s ac w ->
  (∀ac' w',Inv W ρ0 H0 F0 w0 s' ac' w'->Q (toX x) ac' w')->c.wp E.P Q ac w) :
  ∀(n:Nat) (s:St) (x:l4) (s':St),(Ac2 (λs=>tidy H0.length ⟨X6 keep s.a 0,s.H⟩) (M2 E H0.length y) n s).run=some (x,s')->∀(ac:Act) (w:World) (Q:Exit->Act->World->Prop),Inv W ρ0 H0 F0 w0 s ac w ->
  (∀ac' w',Inv W ρ0 H0 F0 w0 s' ac' w'->Q (toX x) ac' w')->Code.rounds E.P c Q n ac w
 |0,s,x,s',he,ac,w,Q,hI,hQ=>by cases he
 |n+1,s,x,s',he,ac,w,Q,hI,hQ=>by
  have he':((tidy H0.length ⟨X6 keep s.a 0,s.H⟩).bind λs=>(M2 E H0.length y s).bind λr =>
   l4.rec (motive:=λ_=>DT (l4×St)) (Ac2 (λs=>tidy H0.length ⟨X6 keep s.a 0,s.H⟩) (M2 E H0.length y) n r.2) (λid=>.ret (.exit id,r.2)) (.ret (.ret,r.2)) r.1).run=some (x,s'):=he
  obtain⟨s1,h1,h2⟩:=DT.run_bind_some he';obtain⟨⟨x2,s2⟩,h3,h4⟩:=DT.run_bind_some h2;obtain⟨k1,k2⟩:=Dc3 keep s.a 0;have hI1:=(hI.keep (a:=X6 keep s.a 0) k1 k2).tidy h1;rw[rounds_succ];refine ih s1 x2 s2 h3 ac w _ hI1 λac' w' hI2=>?_
  cases x2 with
  |normal=>exact Id0 ih n s2 x s' h4 ac' w' Q hI2 hQ
  |exit id =>
   have h4':some (l4.exit id,s2)=some (x,s'):=h4;injection h4' with h4';injection h4' with e1 e2;subst e1 e2
   exact hQ _ _ hI2
  |ret =>
   have h4':some (l4.ret,s2)=some (x,s'):=h4;injection h4' with h4';injection h4' with e1 e2;subst e1 e2
   exact hQ _ _ hI2
section
variable(hG0:GOk E F0 w0)(hcalls:∀f,l8 E.P E.G f (E.call f))(hdraw:Qe0 E)
include hG0 hcalls hdraw
theorem Qe1{c:Code}{y:PC}(hc:V9 E.P c y):∀(s:St) (x:l4) (s':St),(M2 E H0.length y s).run=some (x,s')->∀(ac:Act) (w:World) (Q:Exit->Act->World->Prop),Inv W ρ0 H0 F0 w0 s ac w ->
  (∀ac' w',Inv W ρ0 H0 F0 w0 s' ac' w'->Q (toX x) ac' w')->c.wp E.P Q ac w:=by
 induction hc with
 |skip =>
  intro s x s' he ac w Q hI hQ;have he':some (l4.normal,s)=some (x,s'):=he;injection he' with he';injection he' with e1 e2;subst e1 e2
  exact wp_skip (hQ _ _ hI)
 |ops id ops l h =>
  intro s x s' he ac w Q hI hQ;have he':((U4 E l s).bind λs=>.ret (l4.normal,s)).run=some (x,s'):=he
  obtain⟨s1,h1,h2⟩:=DT.run_bind_some he';have h2':some (l4.normal,s1)=some (x,s'):=h2;injection h2' with h2';injection h2' with e1 e2;subst e1 e2
  refine wp_region ?_;rw[List.range_eq_range']
  have:=de8 (Q:=Q) hG0 hcalls ops.toList 0 l s s1 ac w rfl h hI h1 hQ
  simpa using this
 |draw id ops dsts asq l ps h =>
  intro s x s' he ac w Q hI hQ;exact hdraw W ρ0 H0 F0 w0 hG0 id ops dsts asq l ps h s x s' he ac w Q hI hQ
 |seq ha hb iha ihb =>
  intro s x s' he ac w Q hI hQ;obtain⟨⟨x1,s1⟩,h1,h2⟩:=DT.run_bind_some he;refine wp_seq (iha s x1 s1 h1 ac w _ hI λac' w' hI'=>?_)
  cases x1 with
  |normal=>exact ihb s1 x s' h2 ac' w' Q hI' hQ
  |exit id =>
   have h2':some (l4.exit id,s1)=some (x,s'):=h2;injection h2' with h2';injection h2' with e1 e2;subst e1 e2
   exact hQ _ _ hI'
  |ret =>
   have h2':some (l4.ret,s1)=some (x,s'):=h2;injection h2' with h2';injection h2' with e1 e2;subst e1 e2
   exact hQ _ _ hI'
 | @cond c a b y z ha hb iha ihb =>
  intro s x s' he ac w Q hI hQ;have he':(match c9 E s.a (o7 c) with
   |.v (.bool b)=>DT.ite b (M2 E H0.length y s) (M2 E H0.length z s)
   |_=>DT.fail).run=some (x,s'):=he
  have hc:K8 _ _ _ _ (c9 E s.a (o7 c)) (ac.eval c):=A9 hI.2.choose_spec.choose_spec.2.2 (hG0.adv hI.2.choose_spec.choose_spec.1) c
  revert he' hc
  generalize c9 E s.a (o7 c)=u;intro he' hc
  split at he'
  ·rename_i b;have hb:=fa0 hc
   rcases DT.run_ite_some he' with⟨rfl,h⟩|⟨rfl,h⟩
   ·exact wp_cond_true hb (iha s x s' h ac w Q hI hQ)
   ·exact wp_cond_false hb (ihb s x s' h ac w Q hI hQ)
  ·cases he'
 | @block id a y ha ih =>
  intro s x s' he ac w Q hI hQ;obtain⟨⟨x1,s1⟩,h1,h2⟩:=DT.run_bind_some he;refine wp_block (ih s x1 s1 h1 ac w _ hI λac' w' hI'=>?_)
  cases x1 with
  |normal =>
   have h2':some (l4.normal,s1)=some (x,s'):=h2;injection h2' with h2';injection h2' with e1 e2;subst e1 e2
   exact hQ _ _ hI'
  |ret =>
   have h2':some (l4.ret,s1)=some (x,s'):=h2;injection h2' with h2';injection h2' with e1 e2;subst e1 e2
   exact hQ _ _ hI'
  |exit id' =>
   have h2':(Bool.rec (motive:=λ_=>DT (l4×St)) (.ret (.exit id',s1)) (.ret (.normal,s1)) (Nat.beq id' id)).run=some (x,s'):=h2
   show if id'=id then Q .normal ac' w' else Q (.exit id') ac' w'
   cases hb:Nat.beq id' id with
   |true =>
    rw[hb] at h2';have h3:some (l4.normal,s1)=some (x,s'):=h2';injection h3 with h3;injection h3 with e1 e2;subst e1 e2
    rw[if_pos (Qad hb)];exact hQ _ _ hI'
   |false =>
    rw[hb] at h2';have h3:some (l4.exit id',s1)=some (x,s'):=h2';injection h3 with h3;injection h3 with e1 e2;subst e1 e2
    rw[if_neg (Qbl hb)];exact hQ _ _ hI'
 |loop keep ha ih =>
  intro s x s' he ac w Q hI hQ;exact wp_loop_rounds E.N (Id0 ih E.N s x s' he ac w Q hI hQ)
 |scope ha ih =>
  intro s x s' he ac w Q hI hQ;refine wp_scope_straight (ih s x s' he ac w (Exit.noGoto Q) hI λac' w' hI'=>?_)
  have:=hQ ac' w' hI'
  cases x with
  |normal=>exact this
  |exit id=>exact this
  |ret=>exact this
 |label l =>
  intro s x s' he ac w Q hI hQ;have he':some (l4.normal,s)=some (x,s'):=he;injection he' with he';injection he' with e1 e2;subst e1 e2
  exact wp_label (hQ _ _ hI)
 |exit id =>
  intro s x s' he ac w Q hI hQ;have he':some (l4.exit id,s)=some (x,s'):=he;injection he' with he';injection he' with e1 e2;subst e1 e2
  exact wp_exit (hQ _ _ hI)
 |ret =>
  intro s x s' he ac w Q hI hQ;have he':some (l4.ret,s)=some (x,s'):=he;injection he' with he';injection he' with e1 e2;subst e1 e2
  exact wp_ret (hQ _ _ hI)
 |bad c =>
  intro s x s' he ac w Q hI hQ;cases he
end
end
section
variable{W:Nat->Prop}{ρ ρ0:Rho}{H H0:List c7}{F F0:Fz}{w w0:World}{E:Env}
theorem Qe2{P:Program}{t:TypeId}{p z:b7}{p':Value}{cs:List b7}(hH:J0 W ρ H F w)(hy:K8 ρ H F w p p')(hu:P.underlying t≠none)(hl:Ev.loadCells H p (szT P t)=some cs)(h1:dc0 (agT P t) cs=some z) :
  ∃ad z',p'=.pointer (some ad)/\(loadVar t ad).run P w=.ok z' w/\ra2 ρ H F w z z':=by
 obtain⟨ad,vs,e,hs,hcl,hvl,hw,hr⟩:=Tc9 hH hy hl;have hti:∃i,P.info? t=some i/\i.size=szT P t:=by
  cases hd:P.underlying t with
  |none=>exact absurd hd hu
  |some d=>exact Cb4 hd
 obtain⟨ti,hi1,hi2⟩:=hti
 rcases Oc1 h1 with⟨hag,rfl⟩|⟨hag,z',rfl,rfl⟩
 ·refine⟨ad,.agg vs.toArray,e,?_,.agg cs vs.toArray (by simp[hcl,hvl]) λi x x' hx hx'=>.mem (hr i x x' hx (by simpa using hx'))⟩
  have hlc:(Go.loadCells ad (szT P t)).run P w=.ok vs.toArray w:=by
   rw[<- hvl];refine run_loadCells_list (P:=P) w ad vs λj v hj=>?_
   have hj':j<szT P t:=by rw[<- hvl];exact (Qab.1 hj).1
   rw[aa2 (hs (by omega))]
   exact hw j v hj
  simp[loadVar,xb5 hag,sizeOf,typeInfo,hi1,hi2,hlc]
 ·have h1:szT P t=1:=by simpa using hcl.symm
  have hv1:vs.length=1:=by omega
  obtain⟨v,rfl⟩:∃v,vs=[v]:=by
   match vs,hv1 with
   |[v],_=>exact⟨v,rfl⟩
  have hc:=hw 0 v rfl;have hsp:=hs (by omega)
  have hcell:w.cell? ad=some v:=by
   obtain⟨b,of,sp⟩:=ad
   simp_all
  exact⟨ad,v,e,by simp[loadVar,lb4 hag hu,hcell],.cell (.mem (hr 0 _ v rfl rfl))⟩
def Lf2(tmps:Array Value):ResultVar->Sem Value
 |.tmp t=>pure (tmps.getD t undef)
 |.cell a t=>do loadVar t (<- asAddr (tmps.getD a undef))
def Vd4(P:Program)(w:World)(tmps:Array Value)(r:ResultVar):Value :=
 match r with
 |.tmp t=>tmps.getD t undef
 |.cell a t=>match (do loadVar t (<- asAddr (tmps.getD a undef)):Sem Value).run P w with
  |.ok v _=>v
  |_=>undef
theorem kf5{P:Program}{a:List b7}{tmps:Array Value}(hH:J0 W ρ H F w)(hA:Ia4 ρ H F w a tmps){r:ResultVar}(hr:ye3 P r=true){x:b7}(hx:Hb5 a H (Gd6 P r)=some x) :
  (Lf2 tmps r).run P w=.ok (Vd4 P w tmps r) w/\ra2 ρ H F w x (Vd4 P w tmps r):=by
 have hat:∀{t:Nat} {y:b7},a[t]?=some y->K8 ρ H F w y (tmps.getD t undef):=λ{t y} hy=>by
  have hlt:=(Qab.1 hy).1;have hlt':t<tmps.size:=hA.1 ▸ hlt
  have:=hA.2 t y _ hy (Qac hlt')
  simpa [Array.getD,hlt'] using this
 cases r with
 |tmp t =>
  simp only[Gd6,Hb5,F7] at hx;cases hy:a[t]? with
  |none=>simp[hy] at hx
  |some y =>
   rw[hy] at hx;have hxy:y=x/\∀l,y≠.tup l:=by
    grind
   obtain⟨rfl,hnt⟩:=hxy;refine⟨rfl,?_⟩;show ra2 ρ H F w y (tmps.getD t undef);have h:=hat hy
   revert h
   generalize tmps.getD t undef=u;intro h;cases h with
   |val h=>exact h
   |tup xs=>exact absurd rfl (hnt xs)
 |cell p t =>
  simp only[Gd6,Hb5,F7] at hx;cases hy:a[p]? with
  |none=>simp[hy] at hx
  |some y =>
  simp only[hy] at hx;cases hl:Ev.loadCells H y (szT P t) with
  |none=>simp[hl] at hx
  |some cs =>
  simp only[hl] at hx;have hu:P.underlying t≠none:=λh=>by simp[ye3,h] at hr
  obtain⟨ad,z',e,h1,h2⟩:=Qe2 hH (hat hy) hu hl hx;have hrun:(do loadVar t (<- asAddr (tmps.getD p undef)):Sem Value).run P w=.ok z' w:=by
   rw[e];simp[asAddr,h1]
  have hv:Vd4 P w tmps (.cell p t)=z':=by
   simp only[Vd4,hrun]
  rw[hv];exact⟨hrun,h2⟩
theorem Id1{fn:Func}{a:List b7}{tmps:Array Value}{P:Program}(hH:J0 W ρ H F w)(hA:Ia4 ρ H F w a tmps)(hr:fn.results.toList.all (ye3 P)=true){l:List b7}(hl:Hb0 (Hb5 a H) (fn.results.toList.map (Gd6 P))=some l) :
  ∃v,(results fn tmps).run P w=.ok v w/\K8 ρ H F w (dc2 l) v:=by
 obtain⟨hlen,hat⟩:=ce2 hl;simp only[List.length_map,Array.length_toList] at hlen;have hone:∀(i:Nat) r,fn.results.toList[i]?=some r->∃x,l[i]?=some x/\(Lf2 tmps r).run P w=.ok (Vd4 P w tmps r) w/\ra2 ρ H F w x (Vd4 P w tmps r):=λi r hri=>by
  obtain⟨x,h1,h2⟩:=hat i (Gd6 P r) (by simp only[Qbe,hri,Option.map_some])
  exact⟨x,h2,kf5 hH hA (Qcc.1 hr r (Qbc hri)) h1⟩
 have hm:(fn.results.mapM (Lf2 tmps)).run P w=.ok (fn.results.map (Vd4 P w tmps)) w:=by
  refine dd1 _ _ w fn.results λr hrm=>?_
  obtain⟨i,hi⟩:=List.getElem?_of_mem (Array.mem_toList_iff.2 hrm)
  grind
 have hrun:(results fn tmps).run P w=.ok (if h:(fn.results.map (Vd4 P w tmps)).size=1 then (fn.results.map (Vd4 P w tmps))[0] else .tuple (fn.results.map (Vd4 P w tmps))) w:=by
  have e : results fn tmps = (do
    let vs <- fn.results.mapM (Lf2 tmps)
    pure (if h:vs.size=1 then vs[0] else .tuple vs)):=by
   unfold results;congr 1
  simp_all
 refine⟨_,hrun,?_⟩;by_cases h1:fn.results.size=1
 ·have hl1:l.length=1:=hlen.trans h1;obtain⟨x,rfl⟩:∃x,l=[x]:=by
   match l,hl1 with
   |[x],_=>exact⟨x,rfl⟩
  have hlt:0<fn.results.toList.length:=by simp[h1]
  obtain⟨x',k1,_,k3⟩:=hone 0 _ (Qaa hlt)
  simp at k1
  subst k1;rw[dif_pos (by simpa using h1)]
  simp at k3 ⊢
  exact .val k3
 ·rw[dif_neg (by simpa using h1)]
  have e:dc2 l=.tup l:=by
   match l,hlen with
   |[],_=>rfl
   |[x],h=>exact absurd h.symm h1
   |_::_::_,_=>rfl
  rw[e];refine .tup l _ (by simp[hlen]) λi x x' hx hx'=>?_
  have hi:i<fn.results.toList.length:=by
   grind
  obtain⟨y,k1,_,k3⟩:=hone i _ (Qaa hi)
  grind
theorem tf5{f:FuncId}{fn:Func}{pf:PFn}(hf:E.P.funcs[f]?=some fn)(hname:fn.name ≠ "runtime.NumGoroutine")(hc:Nc9 E.P fn=some pf)(hcalls:∀f,l8 E.P E.G f (E.call f))(hdraw:Qe0 E) :
  l8 E.P E.G f (ba9 E pf):=by
 intro args blks r out he W ρ F w args' hH hlen hargs hG;unfold Nc9 at hc;cases hb:fn.body with
 |none=>simp[hb] at hc
 |some c =>
 simp only[hb] at hc
 split at hc
 case isFalse=>cases hc
 rename_i hres;injection hc with hc;subst hc;refine⟨⟨fn,hf,by simp[hb],hname⟩,?_⟩
 unfold ba9 at he;rw[z6,K6,z6] at he;obtain⟨⟨x,s1⟩,h1,h2⟩:=DT.run_bind_some he
 simp only at h2 h1
 refine calls_of_wp hf hb ?_;have hI:Inv W ρ blks F w ⟨args++List.replicate (fn.ntmps-args.length) (.v (.tuple #[])),blks⟩ { tmps:=args'.toArray++Array.replicate (fn.ntmps-args'.toArray.size) undef,defers:=[] } w:=by
  refine⟨rfl,ρ,F,.refl,hH,by simp[hlen],λi y y' hy hy'=>?_⟩
  simp only at hy hy'
  rcases Qaq i args.length with hi|hi
  ·grind
  ·rw[Qba hi] at hy;rw[Array.getElem?_append_right (by simpa [<- hlen] using hi)] at hy'
   rw[Qbt] at hy;rw[Array.getElem?_replicate] at hy'
   split at hy
   ·split at hy'
    ·injection hy with hy;injection hy' with hy'
     subst hy hy';exact .ofv _
    ·cases hy'
   ·cases hy
 have hfin : ∀ (ac' : Act) (w' : World), Inv W ρ blks F w s1 ac' w' → (match x with | .exit _ => False | _ => True) → (match Hb0 (Hb5 s1.a s1.H) (fn.results.toList.map (Gd6 E.P)) with
    |some l=>Cc5 blks.length s1.H (dc2 l)
    |none=>.fail).run=some (r,out)->ac'.defers=[]/\∃v,(results fn ac'.tmps).run E.P w'=.ok v w'/\∃r',Ending.returned v=.returned r'/\U3 W ρ blks F w r out r' w':=λac' w' hI' _ hr=>by
  obtain⟨hd,ρ1,F1,a1,a2,a3⟩:=hI';cases hm:Hb0 (Hb5 s1.a s1.H) (fn.results.toList.map (Gd6 E.P)) with
  |none=>rw[hm] at hr;cases hr
  |some l =>
  rw[hm] at hr;obtain⟨v,k1,k2⟩:=Id1 a2 a3 hres hm;refine⟨hd,v,k1,v,rfl,?_⟩;simp only[Cc5] at hr;cases ht:Gd1 blks.length s1.H (List.range blks.length) (dc2 l) with
  |mk z roots =>
  simp only[ht] at hr;cases hb2:eb4 blks.length s1.H 0 roots with
  |none=>simp[hb2] at hr
  |some H2 =>
  simp only[hb2] at hr;have hr':some (z,H2)=some (r,out):=hr;injection hr' with hr';injection hr' with e1 e2;subst e1 e2
  obtain⟨m1,_,m3⟩:=Hd8 (TOk.start _) ht;exact⟨_,F1,dd7 m1 hb2 a1,Oc8 m1 a2 hb2,me5 hb2 m3 k2⟩
 refine Qe1 hG hcalls hdraw ((Lf1 E.P c).note _ _ _ _) _ x s1 h1 _ w _ hI λac' w' hI'=>?_
 cases x with
 |normal=>exact hfin ac' w' hI' trivial h2
 |ret=>exact hfin ac' w' hI' trivial h2
 |exit id=>cases h2
end
structure P3(D:Nat->Prop)(H10 H20 H1 H2:List c7):Prop where
 lenq:H1.length=H2.length
 same:∀id,¬ D id->H1[id]?=H2[id]?
 dead:∀(id:Nat) b,D id->H1[id]?=some b->b.dead=true
 at1:∀id,D id->H1[id]?=H10[id]?
 at2:∀id,D id->H2[id]?=H20[id]?
 bound:∀id,D id->id<H1.length
section
variable{D:Nat->Prop}{H10 H20 H1 H2:List c7}{E:Env}{a:List b7}
theorem P3.blkAt(h:P3 D H10 H20 H1 H2){id g:Nat}{b:c7}(hb:Ev.blkAt H1 id g=some b):¬ D id/\Ev.blkAt H2 id g=some b:=by
 obtain⟨h1,h2,h3⟩:=H4 hb;have hD:¬ D id:=λhD=>by rw[h.dead id b hD h1] at h2;cases h2
 refine⟨hD,?_⟩;have hs:=h.same id hD;unfold Ev.blkAt at hb ⊢;rw[F7] at hb ⊢;rw[<- hs];exact hb
theorem P3.setAt(h:P3 D H10 H20 H1 H2){id:Nat}(hD:¬ D id)(b:c7):P3 D H10 H20 (Ev.setAt H1 id b) (Ev.setAt H2 id b):=by
 rw[H6,H6];refine⟨by simp[h.lenq],λi hi=>?_,λi c hi hc=>?_,λi hi=>?_,λi hi=>?_,λi hi=>by simpa using h.bound i hi⟩
 ·by_cases e:id=i
  ·subst e
   rcases Qaq id H1.length with hl|hl
   ·rw[Qbx hl,Qbx (h.lenq ▸ hl)]
   ·rw[Qat (by simpa using hl),Qat (by simpa using h.lenq ▸ hl)]
  ·rw[Qah e,Qah e];exact h.same i hi
 all_goals
  have e:id≠i:=λe=>hD (e ▸ hi)
 ·rw[Qah e] at hc;exact h.dead i c hi hc
 ·rw[Qah e];exact h.at1 i hi
 ·rw[Qah e];exact h.at2 i hi
theorem P3.app(h:P3 D H10 H20 H1 H2)(l:List c7):P3 D H10 H20 (Ev.app H1 l) (Ev.app H2 l):=by
 rw[K6,K6];refine⟨by simp[h.lenq],λi hi=>?_,λi c hi hc=>?_,λi hi=>?_,λi hi=>?_,λi hi=>by have:=h.bound i hi;simp;omega⟩
 ·rcases Qaq i H1.length with hl|hl
  ·rw[Qbb hl,Qbb (h.lenq ▸ hl)];exact h.same i hi
  ·rw[Qba hl,Qba (h.lenq ▸ hl),h.lenq]
 all_goals
  have hl:=h.bound i hi
 ·rw[Qbb hl] at hc;exact h.dead i c hi hc
 ·rw[Qbb hl];exact h.at1 i hi
 ·rw[Qbb (h.lenq ▸ hl)];exact h.at2 i hi
theorem P3.modAt(h:P3 D H10 H20 H1 H2){id:Nat}(hD:¬ D id)(f:c7->c7):P3 D H10 H20 (Ev.modAt H1 id f) (Ev.modAt H2 id f):=by
 have hs:=h.same id hD;unfold Ev.modAt;rw[F7,F7,<- hs];cases H1[id]? with
 |none=>exact h
 |some b=>exact h.setAt hD _
theorem P3.disown(h:P3 D H10 H20 H1 H2){id:Nat}(hD:¬ D id):P3 D H10 H20 (Ev.disown H1 id) (Ev.disown H2 id):=h.modAt hD _
theorem P3.freezeCell(h:P3 D H10 H20 H1 H2){x y:b7}{H1':List c7}(hf:Ev.freezeCell H1 x=some (y,H1')):∃H2',Ev.freezeCell H2 x=some (y,H2')/\P3 D H10 H20 H1' H2':=by
 unfold Ev.freezeCell at hf ⊢;cases x with
 |v u =>
  grind
 |tree es n get =>
  simp_all
 |fn f caps =>
  grind
 |sl id off n g =>
  simp only at hf ⊢
  cases hb:Ev.blkAt H1 id g with
  |none=>simp[hb] at hf
  |some b =>
   obtain⟨hD,hb2⟩:=h.blkAt hb;simp only[hb,hb2] at hf ⊢;injection hf with hf;injection hf with e1 e2;subst e1 e2
   exact⟨_,rfl,h.disown hD⟩
 |_=>cases hf
theorem P3.freezeCells:∀{H1 H2:List c7} {xs ys:List b7} {H1':List c7},P3 D H10 H20 H1 H2->Ev.freezeCells H1 xs=some (ys,H1')->∃H2',Ev.freezeCells H2 xs=some (ys,H2')/\P3 D H10 H20 H1' H2'
 |H1,H2,[],ys,H1',h,hf=>by
  simp only[Ev.freezeCells] at hf ⊢
  simp_all
 |H1,H2,x::xs,ys,H1',h,hf=>by
  simp only[Ev.freezeCells] at hf ⊢;cases h1:Ev.freezeCell H1 x with
  |none=>simp[h1] at hf
  |some yh =>
  obtain⟨y,Ha⟩:=yh;obtain⟨Hb,h2,h3⟩:=h.freezeCell h1;simp only[h1,h2] at hf ⊢;cases h4:Ev.freezeCells Ha xs with
  |none=>simp[h4] at hf
  |some lh =>
  obtain⟨l,Hc⟩:=lh;obtain⟨Hd,h5,h6⟩:=P3.freezeCells h3 h4
  simp_all
theorem P3.elemsOf(h:P3 D H10 H20 H1 H2){es:Nat}{x:b7}{l:List (List b7)}(hf:Ev.elemsOf es H1 x=some l):Ev.elemsOf es H2 x=some l:=by
 unfold Ev.elemsOf at hf ⊢;cases x with
 |sl id off n g =>
  simp only at hf ⊢
  cases hb:Ev.blkAt H1 id g with
  |none=>simp[hb] at hf
  |some b =>
   obtain⟨_,hb2⟩:=h.blkAt hb
   simp_all
 |v u =>
  grind
 |_=>exact hf
theorem P3.capArg(h:P3 D H10 H20 H1 H2){p:Pa8}{x:b7}{r:b7×Pa8}(hf:Ev.capArg H1 p x=some r):Ev.capArg H2 p x=some r:=by
 unfold Ev.capArg at hf ⊢;cases x with
 |ptr id i c g =>
  simp only at hf ⊢
  cases hb:Ev.blkAt H1 id g with
  |none=>simp[hb] at hf
  |some b =>
   obtain⟨_,hb2⟩:=h.blkAt hb
   simp_all
 |sl id off n g =>
  simp only at hf ⊢
  cases hb:Ev.blkAt H1 id g with
  |none=>simp[hb] at hf
  |some b =>
   obtain⟨_,hb2⟩:=h.blkAt hb
   simp_all
 |fn f caps=>cases caps<;>exact hf
 |_=>exact hf
theorem P3.capArgs(h:P3 D H10 H20 H1 H2):∀{xs:List b7} {p:Pa8} {r:List b7×Pa8},Ev.capArgs H1 p xs=some r->Ev.capArgs H2 p xs=some r
 |[],p,r,hf=>hf
 |x::xs,p,r,hf=>by
  simp only[Ev.capArgs] at hf ⊢;cases h1:Ev.capArg H1 p x with
  |none=>simp[h1] at hf
  |some yq =>
  rw[h.capArg h1];simp only[h1] at hf ⊢;cases h2:Ev.capArgs H1 yq.2 xs with
  |none=>simp[h2] at hf
  |some lq =>
  rw[P3.capArgs h h2]
  simp_all
theorem P3.prepArg(h:P3 D H10 H20 H1 H2){own:Bool}{p:Pa8}{x:b7}{r:b7×Pa8}(hf:Ev.prepArg H1 own p x=some r):Ev.prepArg H2 own p x=some r:=by
 unfold Ev.prepArg at hf ⊢;cases x with
 |v u=>exact hf
 |sl id off n g =>
  cases own with
  |false=>exact h.capArg hf
  |true =>
   simp only at hf ⊢
   cases hb:Ev.blkAt H1 id g with
   |none=>simp[hb] at hf
   |some b =>
    obtain⟨_,hb2⟩:=h.blkAt hb
    simp_all
 |agg cs =>
  simp only at hf ⊢
  cases h1:Ev.capArgs H1 p cs with
  |none=>simp[h1] at hf
  |some lq =>
  rw[h.capArgs h1]
  simp_all
 |fn f cs =>
  simp only at hf ⊢
  cases h1:Ev.capArgs H1 p cs with
  |none=>simp[h1] at hf
  |some lq =>
  rw[h.capArgs h1]
  simp_all
 |_=>exact h.capArg hf
theorem P3.prepArgs(h:P3 D H10 H20 H1 H2){own:Nat->Bool}:∀{xs:List b7} {p:Pa8} {k:Nat} {r:List b7×Pa8},Ev.prepArgs H1 own p k xs=some r->Ev.prepArgs H2 own p k xs=some r
 |[],p,k,r,hf=>hf
 |x::xs,p,k,r,hf=>by
  simp only[Ev.prepArgs] at hf ⊢;cases h1:Ev.prepArg H1 (own k) p x with
  |none=>simp[h1] at hf
  |some yq =>
  rw[h.prepArg h1];simp only[h1] at hf ⊢;cases h2:Ev.prepArgs H1 own yq.2 (k+1) xs with
  |none=>simp[h2] at hf
  |some lq =>
  rw[P3.prepArgs h h2]
  simp_all
theorem P3.blksAt(h:P3 D H10 H20 H1 H2):∀{roots:List Nat} {r:List c7},(∀id∈roots,¬ D id)->Ev.blksAt H1 roots=some r->Ev.blksAt H2 roots=some r
 |[],r,_,hf=>hf
 |id::roots,r,hr,hf=>by
  simp only[Ev.blksAt,F7] at hf ⊢;rw[<- h.same id (hr id (by simp))]
  cases hb:H1[id]? with
  |none=>simp[hb] at hf
  |some b =>
  simp only[hb] at hf ⊢;cases h2:Ev.blksAt H1 roots with
  |none=>simp[h2] at hf
  |some l =>
  rw[h.blksAt (λi hi=>hr i (by simp[hi])) h2]
  simp_all
theorem P3.putBack:∀{roots:List Nat} {H1 H2 out H1':List c7},P3 D H10 H20 H1 H2->(∀id∈roots,¬ D id)->Ev.putBack H1 roots out=some H1'->∃H2',Ev.putBack H2 roots out=some H2'/\P3 D H10 H20 H1' H2'
 |[],H1,H2,[],H1',h,_,hf=>by
  simp only[Ev.putBack] at hf ⊢
  simp_all
 |[],H1,H2,c::out,H1',h,_,hf=>by
  simp only[Ev.putBack] at hf ⊢;injection hf with hf;subst hf
  exact⟨_,rfl,h.app _⟩
 |id::roots,H1,H2,[],H1',h,_,hf=>by simp[Ev.putBack] at hf
 |id::roots,H1,H2,c::out,H1',h,hr,hf=>by
  simp only[Ev.putBack] at hf ⊢;exact P3.putBack (h.modAt (hr id (by simp)) _) (λi hi=>hr i (by simp[hi])) hf
theorem P3.settle(h:P3 D H10 H20 H1 H2)(held:Bool):∀{lent:List Nat},(∀id∈lent,¬ D id)->P3 D H10 H20 (Ev.settle lent held H1) (Ev.settle lent held H2)
 |[],_=>h
 |id::lent,hr=>by
  have ih:=P3.settle h held (lent:=lent) λi hi=>hr i (by simp[hi])
  rw[Yb9,Yb9];split
  ·exact ih.disown (hr id (by simp))
  ·exact ih
theorem P3.backId(h:P3 D H10 H20 H1 H2){roots:List Nat}(hr:∀id∈roots,¬ D id)(j g:Nat):Ev.backId H1 roots j g=Ev.backId H2 roots j g:=by
 unfold Ev.backId;rw[F7];cases hj:roots[j]? with
 |none=>simp only[z6,h.lenq]
 |some id=>simp only[F7,h.same id (hr id (Qbc hj))]
theorem P3.backC(h:P3 D H10 H20 H1 H2){roots:List Nat}(hr:∀id∈roots,¬ D id):Ev.backC H1 roots=Ev.backC H2 roots:=by
 funext x;cases x with
 |ptr=>simp only[Ev.backC,h.backId hr]
 |sl=>simp only[Ev.backC,h.backId hr]
 |_=>rfl
theorem P3.backVal1(h:P3 D H10 H20 H1 H2){roots:List Nat}(hr:∀id∈roots,¬ D id):Ev.backVal1 H1 roots=Ev.backVal1 H2 roots:=by
 funext x;unfold Ev.backVal1;rw[h.backC hr]
theorem P3.backVal(h:P3 D H10 H20 H1 H2){roots:List Nat}(hr:∀id∈roots,¬ D id):Ev.backVal H1 roots=Ev.backVal H2 roots:=by
 funext x;unfold Ev.backVal;rw[h.backVal1 hr]
theorem P3.callA(h:P3 D H10 H20 H1 H2){f:FuncId}{args:List b7}{x:b7}{H1':List c7}(he:(Ev.callA E f args H1).run=some (x,H1')):∃H2',(Ev.callA E f args H2).run=some (x,H2')/\P3 D H10 H20 H1' H2':=by
 unfold Ev.callA at he ⊢;cases hpr:Ev.prepArgs H1 (E.own f) { roots:=[],lent:=[] } 0 args with
 |none=>rw[hpr] at he;cases he
 |some q =>
 obtain⟨Dc1,p⟩:=q;obtain⟨hp,_,hl2,hPr⟩:=Dc0 (H:=H1) (p:={ roots:=[],lent:=[] }) ⟨List.nodup_nil,λid h=>by simp at h,λid h=>by simp at h⟩ hpr
 have hroots:∀id∈p.roots,¬ D id:=λid hid hD=>by
  obtain⟨b,h1,h2⟩:=hp.live id hid;rw[h.dead id b hD h1] at h2;cases h2
 have hlent:∀id∈p.lent,¬ D id:=λid hid hD=>by
  obtain⟨b,h1,h2⟩:=hp.lent id hid;rw[h.dead id b hD h1] at h2;cases h2
 rw[h.prepArgs hpr];rw[hpr] at he
 simp only at he ⊢
 cases hbl:Ev.blksAt H1 p.roots with
 |none=>rw[hbl] at he;cases he
 |some blks =>
 rw[h.blksAt hroots hbl];cases hap:Qb7 p.lent p.roots with
 |false=>rw[hbl,hap] at he;cases he
 |true =>
 rw[hbl,hap] at he
 simp only at he ⊢
 obtain⟨⟨r,out⟩,hc,he⟩:=DT.run_bind_some he
 simp only at he
 cases hpb:Ev.putBack H1 p.roots out with
 |none=>rw[hpb] at he;cases he
 |some H1b =>
 obtain⟨H2b,k1,k2⟩:=P3.putBack h hroots hpb;rw[hpb] at he
 simp only at he
 have he':some (Ev.backVal H1 p.roots r,Ev.settle p.lent (Za7 r||out.any Cc0) H1b)=some (x,H1'):=he
 injection he' with he';injection he' with e1 e2;subst e1 e2
 refine⟨Ev.settle p.lent (Za7 r||out.any Cc0) H2b,?_,k2.settle _ hlent⟩
 rw[DT.run_bind,hc];simp only[Option.bind_some,k1];rw[h.backVal hroots];rfl
theorem P3.appendA(h:P3 D H10 H20 H1 H2){et es bytes:Nat}{s y x:b7}{H1':List c7}(he:(Ev.appendA et es bytes s y H1).run=some (x,H1')):∃H2',(Ev.appendA et es bytes s y H2).run=some (x,H2')/\P3 D H10 H20 H1' H2':=by
 unfold Ev.appendA at he ⊢;cases hel:Ev.elemsOf es H1 y with
 |none=>rw[hel] at he;cases he
 |some news =>
 rw[h.elemsOf hel];rw[hel] at he
 simp only at he ⊢
 have hnil : ∀ {H1' : List c7}, (DT.ite (Nat.beq (len news) 0) (.ret (b7.v (.slice none 0 0), H1))
    (.guard (Nat.ble (len news*bytes) room) (.ret (.sl (len H1) 0 (len news) 0,Ea6 H1 et es news)))).run=some (x,H1') ->
   ∃H2',(DT.ite (Nat.beq (len news) 0) (.ret (b7.v (.slice none 0 0),H2))
    (.guard (Nat.ble (len news*bytes) room) (.ret (.sl (len H2) 0 (len news) 0,Ea6 H2 et es news)))).run=some (x,H2')/\P3 D H10 H20 H1' H2':=λ{H1'} he=>by
  rcases DT.run_ite_some he with⟨h1,h2⟩|⟨h1,h2⟩
  ·rw[h1];simp only[DT.run_ret] at h2;injection h2 with h2;injection h2 with e1 e2;subst e1 e2
   exact⟨_,rfl,h⟩
  ·obtain⟨h3,h4⟩:=DT.run_guard_some h2;rw[h1];simp only[DT.run_ret] at h4;injection h4 with h4;injection h4 with e1 e2;subst e1 e2
   have hl:len H2=len H1:=by rw[z6,z6,h.lenq]
   refine⟨Ea6 H2 et es news,?_,h.app _⟩;rw[hl];simp only[DT.run_ite,DT.guard,h3,DT.run_ret,if_true,Bool.false_eq_true,if_false]
 cases s with
 |v u =>
  cases u with
  |slice ad n c =>
   cases ad with
   |some _=>cases he
   |none =>
    cases n with
    |succ _=>cases he
    |zero =>
     cases c with
     |succ _=>cases he
     |zero=>exact hnil he
  |_=>cases he
 |sl id off n g =>
  simp only at he ⊢
  cases hb:Ev.blkAt H1 id g with
  |none=>rw[hb] at he;cases he
  |some b =>
  obtain⟨hD,hb2⟩:=h.blkAt hb;rw[hb] at he;rw[hb2]
  simp only at he ⊢
  split at he
  ·obtain⟨h3,h4⟩:=DT.run_guard_some he;simp only[DT.run_ret] at h4;injection h4 with h4;injection h4 with e1 e2;subst e1 e2
   refine⟨_,?_,h.setAt hD _⟩;simp only[DT.run_ite,DT.guard,h3,DT.run_ret,if_true]
  ·cases he
 |_=>cases he
theorem P3.apreA(h:P3 D H10 H20 H1 H2){es:Nat}{d s x:b7}{H1':List c7}(he:(Ev.apreA es d s H1).run=some (x,H1')):∃H2',(Ev.apreA es d s H2).run=some (x,H2')/\P3 D H10 H20 H1' H2':=by
 unfold Ev.apreA at he ⊢;cases hel:Ev.elemsOf es H1 s with
 |none=>rw[hel] at he;cases he
 |some news =>
 rw[h.elemsOf hel];rw[hel] at he
 simp only at he ⊢
 split at he
 ·obtain⟨h0,he⟩:=DT.run_guard_some he;simp only[DT.run_ret] at he;injection he with he;injection he with e1 e2;subst e1 e2
  refine⟨H2,?_,h⟩;simp only[DT.guard,DT.run_ite,h0,DT.run_ret,if_true]
 ·rename_i id off n g;cases hb:Ev.blkAt H1 id g with
  |none=>rw[hb] at he;cases he
  |some b =>
  obtain⟨hD,hb2⟩:=h.blkAt hb;rw[hb] at he;rw[hb2]
  simp only at he ⊢
  split at he
  ·rename_i hc;obtain⟨h0,he⟩:=DT.run_guard_some he;simp only[DT.run_ret] at he;injection he with he;injection he with e1 e2;subst e1 e2
   refine⟨_,?_,h.setAt hD _⟩;simp only[hc,DT.guard,DT.run_ite,h0,DT.run_ret,if_true]
  ·cases he
 ·cases he
theorem P3.clrA(h:P3 D H10 H20 H1 H2){es:Nat}{z:List b7}{d x:b7}{H1':List c7}(he:Ev.clrA es z d H1=some (x,H1')):∃H2',Ev.clrA es z d H2=some (x,H2')/\P3 D H10 H20 H1' H2':=by
 unfold Ev.clrA at he ⊢
 split at he
 ·simp_all
 ·rename_i id off n g;cases hb:Ev.blkAt H1 id g with
  |none=>rw[hb] at he;cases he
  |some b =>
  obtain⟨hD,hb2⟩:=h.blkAt hb;rw[hb] at he;simp only[hb2]
  simp only at he ⊢
  split at he
  ·rename_i hc;injection he with he;injection he with e1 e2;subst e1 e2
   exact⟨_,by simp only[hc],h.setAt hD _⟩
  ·cases he
 ·cases he
theorem P3.aslA(h:P3 D H10 H20 H1 H2){n es:Nat}{d x:b7}{H1':List c7}(he:Ev.aslA n es d H1=some (x,H1')):∃H2',Ev.aslA n es d H2=some (x,H2')/\P3 D H10 H20 H1' H2':=by
 unfold Ev.aslA at he ⊢
 split at he
 ·rename_i id i c g;cases hb:Ev.blkAt H1 id g with
  |none=>simp only[hb] at he;cases he
  |some b =>
  obtain⟨hD,hb2⟩:=h.blkAt hb;simp only[hb] at he;simp only[hb2]
  split at he
  ·rename_i hc;injection he with he;injection he with e1 e2;subst e1 e2
   exact⟨_,rfl,h.disown hD⟩
  ·cases he
 ·cases he
def Ed4:PO->Bool
 |.alloc _ | .box _ | .bslice .. | .mksl .. | .store .. | .append .. | .copy .. | .apre .. | .clr .. | .asl .. | .call .. | .calld .. | .invk .. | .bad=>true
 |_=>false
theorem P3.evalOp(h:P3 D H10 H20 H1 H2){o:PO}(ho:Ed4 o=true){x:b7}{H1':List c7}(he:(Ev.evalOp E a H1 o).run=some (x,H1')):∃H2',(Ev.evalOp E a H2 o).run=some (x,H2')/\P3 D H10 H20 H1' H2':=by
 cases o with
 |alloc z =>
  simp only[Ev.evalOp,DT.run_ret] at he ⊢;injection he with he;injection he with e1 e2;subst e1 e2
  have hl:len H2=len H1:=by rw[z6,z6,h.lenq]
  exact⟨_,by rw[hl];rfl,h.app _⟩
 |box y =>
  simp only[Ev.evalOp] at he ⊢;cases hf:Ev.freezeCells H1 (L8 (c9 E a y)) with
  |none=>rw[hf] at he;cases he
  |some p =>
  obtain⟨cs,Ha⟩:=p;obtain⟨Hb,h1,h2⟩:=P3.freezeCells h hf;rw[hf] at he;rw[h1];simp only[DT.run_ret] at he ⊢;injection he with he;injection he with e1 e2;subst e1 e2
  have hl:len Hb=len Ha:=by rw[z6,z6,h2.lenq]
  exact⟨_,by rw[hl];rfl,h2.app _⟩
 |bslice et es n z parts =>
  simp only[Ev.evalOp] at he ⊢;cases hl:wc4 z (s5 (λp=>(p.1,p.2.1,c9 E a p.2.2)) parts) with
  |none=>rw[hl] at he;cases he
  |some cs =>
  rw[hl] at he
  simp only at he ⊢
  cases hf:Ev.freezeCells H1 cs with
  |none=>rw[hf] at he;cases he
  |some p =>
  obtain⟨cs,Ha⟩:=p;obtain⟨Hb,h1,h2⟩:=P3.freezeCells h hf;rw[hf] at he;rw[h1];simp only[DT.run_ret] at he ⊢;injection he with he;injection he with e1 e2;subst e1 e2
  have hl:len Hb=len Ha:=by rw[z6,z6,h2.lenq]
  exact⟨_,by rw[hl];rfl,h2.app _⟩
 |mksl et es bytes z l c =>
  simp only[Ev.evalOp] at he ⊢;cases h1:la4 (c9 E a l) with
  |none=>rw[h1] at he;cases he
  |some n =>
  cases h2:la4 (c9 E a c) with
  |none=>rw[h1,h2] at he;cases he
  |some m =>
  rw[h1,h2] at he
  simp only at he ⊢
  obtain⟨h3,h4⟩:=DT.run_guard_some he;simp only[DT.run_ret] at h4;injection h4 with h4;injection h4 with e1 e2;subst e1 e2
  refine⟨_,?_,h.app _⟩;simp only[DT.guard,DT.run_ite,h3,if_true,DT.run_ret];have hl:len H2=len H1:=by rw[z6,z6,h.lenq]
  rw[hl];rfl
 |store n p y =>
  simp only[Ev.evalOp] at he ⊢
  revert he
  cases c9 E a p with
  |ptr id i c g =>
   intro he
   simp only at he ⊢
   cases hf:Ev.freezeCells H1 (L8 (c9 E a y)) with
   |none=>rw[hf] at he;cases he
   |some q =>
   obtain⟨cs,Ha⟩:=q;obtain⟨Hb,h1,h2⟩:=P3.freezeCells h hf;rw[hf] at he;rw[h1]
   simp only at he ⊢
   cases hb:Ev.blkAt Ha id g with
   |none=>rw[hb] at he;cases he
   |some b =>
   obtain⟨hD,hb2⟩:=h2.blkAt hb;rw[hb] at he;rw[hb2]
   simp only at he ⊢
   obtain⟨hg,he⟩:=DT.run_guard_some he;rw[hg];simp only[DT.run_ret] at he ⊢;injection he with he;injection he with e1 e2;subst e1 e2
   exact⟨_,rfl,h2.setAt hD _⟩
  |_=>intro he;cases he
 |append et es bytes s y=>exact h.appendA he
 |copy es d s=>cases he
 |apre es s y=>exact h.apreA he
 |clr es z y =>
  obtain⟨H2',h1,h2⟩:=h.clrA (ic8 he);refine⟨H2',?_,h2⟩;show (if8 (Ev.clrA es z (c9 E a y) H2)).run=_;rw[h1];rfl
 |asl n es y =>
  obtain⟨H2',h1,h2⟩:=h.aslA (ic8 he);refine⟨H2',?_,h2⟩;show (if8 (Ev.aslA n es (c9 E a y) H2)).run=_;rw[h1];rfl
 |call f args=>exact h.callA he
 |calld y args =>
  simp only[Ev.evalOp] at he ⊢
  revert he
  cases c9 E a y with
  |fn f caps =>
   intro he
   simp only at he ⊢
   cases hb:Nat.ble bfB f with
   |false=>rw[hb] at he;exact h.callA he
   |true =>
    rw[hb] at he;cases caps with
    |nil=>cases he
    |cons c cs=>exact h.callA he
  |_=>intro he;cases he
 |invk tbl y args=>cases he
 |bad=>cases he
 |_=>cases ho
end
section
variable{E:Env}{a a':List b7}{H H':List c7}
def Agr(a a':List b7)(l:List Nat):Prop:=∀t∈l,a[t]?=a'[t]?
theorem Agr.left{l r:List Nat}(h:Agr a a' (l++r)):Agr a a' l:=λt ht=>h t (Qbj _ ht)
theorem Agr.right{l r:List Nat}(h:Agr a a' (l++r)):Agr a a' r:=λt ht=>h t (Qcg _ ht)
theorem Agr.t{t:Nat}(h:a[t]?=a'[t]?):c9 E a (.t t)=c9 E a' (.t t):=by rw[Mb7,Mb7,h]
theorem Agr.arg{x:Arg}(h:Agr a a' (Pa9 x)):c9 E a x=c9 E a' x:=by
 cases x with
 |t n=>exact Agr.t (h n (by simp[Pa9]))
 |c x=>rfl
 |g n=>rfl
theorem Agr.opt{x:Option Arg}(h:Agr a a' (Oe5 x)):x.map (c9 E a)=x.map (c9 E a'):=by
 cases x with
 |none=>rfl
 |some x=>exact congrArg some (Agr.arg h)
theorem Agr.args{xs:List Arg}(h:Agr a a' (xs.flatMap Pa9)):s5 (c9 E a) xs=s5 (c9 E a') xs:=by
 rw[s8,s8];refine Qcn λx hx=>Agr.arg λt ht=>h t (Qcl.2 ⟨x,hx,ht⟩)
theorem Agr.parts{ps:List (Nat×Nat×Arg)}(h:Agr a a' (ps.flatMap λp=>Pa9 p.2.2)):s5 (λp:Nat×Nat×Arg=>(p.1,p.2.1,c9 E a p.2.2)) ps=s5 (λp=>(p.1,p.2.1,c9 E a' p.2.2)) ps:=by
 rw[s8,s8];refine Qcn λx hx=>?_
 rw[Agr.arg (E:=E) (a:=a) (a':=a') λt ht=>h t (Qcl.2 ⟨x,hx,ht⟩)]
theorem Id2{α β:Type}{f g:α->Option β}:∀{l:List α},(∀x∈l,f x=g x)->Hb0 f l=Hb0 g l
 |[],_=>rfl
 |x::l,h=>by
  have ih:=Id2 (f:=f) (g:=g) (l:=l) λy hy=>h y (by simp[hy])
  have e1:∀(u:α->Option β),Hb0 u (x::l)=Option.rec (motive:=λ_=>Option (List β)) none (λy=>Option.rec (motive:=λ_=>Option (List β)) none (λr=>some (y::r)) (Hb0 u l)) (u x):=λ_=>rfl
  simp_all
theorem Agr.gen{o:Oper}{ts:List Nat}(h:Agr a a' ts):Vd2 E a o ts=Vd2 E a' o ts:=by
 unfold Vd2;rw[Id2 λt ht=>by rw[Agr.t (E:=E) (h t ht)]]
theorem dd8(o:PO)(h:Agr a a' (Yb6 o)):evalOp E a H o=evalOp E a' H o:=by
 cases o with
 |alloc z=>rfl
 |bad=>rfl
 |pick c x y=>simp only[evalOp,Agr.arg (E:=E) h.left.left,Agr.arg (E:=E) h.left.right,Agr.arg (E:=E) h.right]
 |build z ps=>simp only[evalOp,Agr.parts (E:=E) h]
 |bslice et es n z ps=>simp only[evalOp,Agr.parts (E:=E) h]
 |tslice es n z ps=>simp only[evalOp,Agr.parts (E:=E) h]
 |tmk es b z x y=>simp only[evalOp,Agr.arg (E:=E) h.left,Agr.arg (E:=E) h.right]
 |slice es x lo hi=>simp only[evalOp,Agr.arg (E:=E) h.left.left,Agr.opt (E:=E) h.left.right,Agr.opt (E:=E) h.right]
 |mkfn f xs=>simp only[evalOp,Agr.args (E:=E) h]
 |call f xs=>simp only[evalOp,Agr.args (E:=E) h]
 |calld x xs=>simp only[evalOp,Agr.args (E:=E) h.right,Agr.arg (E:=E) h.left]
 |invk tbl x xs=>rfl
 |gen o ts =>
  have e:Vd2 E a o ts=Vd2 E a' o ts:=Agr.gen h;simp only[evalOp,e]
 |eqn k neg x y o ts=>simp only[evalOp,dg3,Agr.gen (E:=E) h.right,Agr.arg (E:=E) h.left.left,Agr.arg (E:=E) h.left.right]
 |mv x=>simp only[evalOp,Agr.arg (E:=E) (x:=x) h]
 |nilck x=>simp only[evalOp,Agr.arg (E:=E) (x:=x) h]
 |box x=>simp only[evalOp,Agr.arg (E:=E) (x:=x) h]
 |load ks n agg x=>simp only[evalOp,Agr.arg (E:=E) (x:=x) h]
 |fld off x=>simp only[evalOp,Agr.arg (E:=E) (x:=x) h]
 |ext x i=>simp only[evalOp,Agr.arg (E:=E) (x:=x) h]
 |field off n agg x=>simp only[evalOp,Agr.arg (E:=E) (x:=x) h]
 |not x=>simp only[evalOp,Agr.arg (E:=E) (x:=x) h]
 |neg x=>simp only[evalOp,Agr.arg (E:=E) (x:=x) h]
 |len x=>simp only[evalOp,Agr.arg (E:=E) (x:=x) h]
 |slen x=>simp only[evalOp,Agr.arg (E:=E) (x:=x) h]
 |clr es z x=>simp only[evalOp,Agr.arg (E:=E) (x:=x) h]
 |asl n es x=>simp only[evalOp,Agr.arg (E:=E) (x:=x) h]
 |_=>simp only[evalOp,Agr.arg (E:=E) h.left,Agr.arg (E:=E) h.right]
def Be0(b b':c7):Prop:=b'.dead=b.dead/\b'.g=b.g/\b'.es=b.es/\b'.elems=b.elems/\b'.et=b.et
def Z6(H H':List c7)(id:Nat):Prop:=∀b,H[id]?=some b->∃b',H'[id]?=some b'/\Be0 b b'
theorem Be0.refl(b:c7):Be0 b b:=⟨rfl,rfl,rfl,rfl,rfl⟩
theorem Be0.trans{b c d:c7}(h:Be0 b c)(k:Be0 c d):Be0 b d:=⟨k.1.trans h.1,k.2.1.trans h.2.1,k.2.2.1.trans h.2.2.1,k.2.2.2.1.trans h.2.2.2.1,k.2.2.2.2.trans h.2.2.2.2⟩
theorem Z6.refl(H:List c7)(id:Nat):Z6 H H id:=λb hb=>⟨b,hb,.refl b⟩
theorem Z6.trans{H1 H2 H3:List c7}{id:Nat}(h:Z6 H1 H2 id)(k:Z6 H2 H3 id):Z6 H1 H3 id:=λb hb=>by
 obtain⟨c,hc,h1⟩:=h b hb;obtain⟨d,hd,h2⟩:=k c hc;exact⟨d,hd,h1.trans h2⟩
theorem Z6.blk{id g:Nat}{b:c7}(h:Z6 H H' id)(hb:blkAt H id g=some b):∃b',blkAt H' id g=some b'/\Be0 b b':=by
 obtain⟨h1,h2,h3⟩:=H4 hb;obtain⟨b',k1,k2⟩:=h b h1;refine⟨b',?_,k2⟩;unfold blkAt;rw[F7,k1];have hd:b'.dead=false:=k2.1.trans h2;have hg:Nat.beq b'.g g=true:=by rw[k2.2.1,h3];exact Nat.beq_refl g
 simp only[hd,hg]
theorem Be1{p:b7}{n:Nat}{q:Bool×List b7}(h:∀id∈Ea7 p,Z6 H H' id)(hl:oc3 H p n=some q):oc3 H' p n=some q:=by
 unfold oc3 at hl ⊢;cases p with
 |ptr id i c g =>
  simp only at hl ⊢
  cases hb:blkAt H id g with
  |none=>simp[hb] at hl
  |some b =>
  obtain⟨b',h1,h2⟩:=(h id (by simp[Ea7])).blk hb
  simp only[hb] at hl;rw[h1];simp only[h2.2.2.2.1];exact hl
 |_=>exact hl
theorem Rb6{x:Option b7}{H1:List c7}{r:b7}(h:(opt x H).run=some (r,H1))(H':List c7):H1=H/\(opt x H').run=some (r,H'):=by
 obtain⟨y,h1,h2⟩:=pb1 h;injection h2 with e1 e2;subst e1 e2 h1;exact⟨rfl,rfl⟩
theorem Ma0{x r:b7}{H1:List c7}(h:(DT.ret (x,H)).run=some (r,H1))(H':List c7):H1=H/\(DT.ret (x,H')).run=some (r,H'):=by
 simp_all
theorem xb6{c:Bool}{x r:b7}{H1:List c7}(h:(DT.guard c (DT.ret (x,H))).run=some (r,H1))(H':List c7):H1=H/\(DT.guard c (DT.ret (x,H'))).run=some (r,H'):=by
 obtain⟨h1,h2⟩:=DT.run_guard_some h;obtain⟨e,h3⟩:=Ma0 h2 H';exact⟨e,by rw[DT.guard,DT.run_ite,h1];exact h3⟩
theorem Pc1{α:Type}{d:DT α}{f:α->b7}{r:b7}{H1:List c7}(h:(d.bind λy=>DT.ret (f y,H)).run=some (r,H1))(H':List c7):H1=H/\(d.bind λy=>DT.ret (f y,H')).run=some (r,H'):=by
 obtain⟨y,h1,h2⟩:=DT.run_bind_some h;obtain⟨e,h3⟩:=Ma0 h2 H';exact⟨e,by rw[DT.run_bind,h1];exact h3⟩
theorem dd9{o:PO}(ho:Ed1 o=true){x:b7}{H1:List c7}(he:(evalOp E a H o).run=some (x,H1)):H1=H/\∀H',(∀id∈lb2 E a o,Z6 H H' id)->(evalOp E a H' o).run=some (x,H'):=by
 suffices hs:∀H',(∀id∈lb2 E a o,Z6 H H' id)->H1=H/\(evalOp E a H' o).run=some (x,H') by
  exact⟨(hs H λid _=>.refl H id).1,λH' h=>(hs H' h).2⟩
 intro H' hu;cases o with
 |mv y=>exact Ma0 he H'
 |nilck y =>
  simp only[evalOp] at he ⊢
  revert he
  cases c9 E a y<;>intro he<;>first | exact Ma0 he H' | cases he
 |pick c y z =>
  simp only[evalOp] at he ⊢
  revert he
  cases c9 E a c with
  |v u =>
   cases u with
   |bool b =>
    intro he;simp only[DT.run_ite,DT.run_ret] at he ⊢
    grind
   |_=>intro he;cases he
  |_=>intro he;cases he
 |build z ps =>
  simp only[evalOp] at he ⊢
  split at he
  ·exact Ma0 he H'
  ·cases he
 |tslice es n z ps =>
  simp only[evalOp] at he ⊢
  split at he
  ·split at he
   ·exact Ma0 he H'
   ·cases he
  ·cases he
 |tmk es bb z y c =>
  simp only[evalOp] at he ⊢
  split at he
  ·exact xb6 he H'
  ·cases he
 |load ks n agg y =>
  simp only[evalOp] at he ⊢;cases hl:oc3 H (c9 E a y) n with
  |none=>rw[hl] at he;cases he
  |some q =>
  rw[Be1 hu hl];rw[hl] at he;obtain⟨hg,he⟩:=DT.run_guard_some he;simp only[hg];exact Rb6 he H'
 |fld off y =>
  simp only[evalOp] at he ⊢
  revert he
  cases c9 E a y<;>intro he<;>first | exact Ma0 he H' | cases he
 |idxA n es y i =>
  simp only[evalOp] at he ⊢
  revert he
  cases la4 (c9 E a i) with
  |none=>intro he;cases he
  |some m=>cases c9 E a y<;>intro he<;>first | exact xb6 he H' | cases he
 |idxS es y i =>
  have hu':∀id∈Ea7 (c9 E a y),Z6 H H' id:=hu;simp only[evalOp] at he ⊢
  revert he hu'
  cases la4 (c9 E a i) with
  |none=>intro he _;cases he
  |some m =>
   cases c9 E a y with
   |sl id off n g =>
    intro he hu'
    simp only at he ⊢
    cases hb:blkAt H id g with
    |none=>rw[hb] at he;cases he
    |some b =>
    obtain⟨b',h1,h2⟩:=(hu' id (by simp[Ea7])).blk hb
    rw[hb] at he;rw[h1];simp only[h2.2.2.1] at he ⊢;cases hbe:Nat.beq b.es es with
    |false=>rw[hbe] at he;cases he
    |true =>
     rw[hbe] at he;exact xb6 he H'
   |tree es' n get =>
    intro he _
    simp only at he ⊢
    cases hbe:Nat.beq es' es with
    |false=>rw[hbe] at he;cases he
    |true =>
     rw[hbe] at he;exact xb6 he H'
   |_=>intro he _;cases he
 |slice es y lo hi =>
  have hu':∀id∈Ea7 (c9 E a y),Z6 H H' id:=hu;simp only[evalOp] at he ⊢
  revert he hu'
  cases c9 E a y with
  |sl id off n g =>
   intro he hu'
   simp only at he ⊢
   cases hb:blkAt H id g with
   |none=>rw[hb] at he;cases he
   |some b =>
   obtain⟨b',h1,h2⟩:=(hu' id (by simp[Ea7])).blk hb
   rw[hb] at he;rw[h1];simp only[h2.2.2.1] at he ⊢;cases hbe:Nat.beq b.es es with
   |false=>rw[hbe] at he;cases he
   |true =>
    rw[hbe] at he;exact Pc1 (f:=λy:Nat×Nat=>.sl id (off+y.1) (y.2-y.1) g) he H'
  |tree es' n get =>
   intro he _
   simp only at he ⊢
   cases hbe:Nat.beq es' es with
   |false=>rw[hbe] at he;cases he
   |true =>
    rw[hbe] at he;exact Pc1 (f:=λy:Nat×Nat=>.tree es' (y.2-y.1) λi=>get (y.1+i)) he H'
  |v u =>
   intro he _;cases u with
   |slice ad n c =>
    cases ad with
    |some _=>cases he
    |none=>cases n with
     |succ _=>cases he
     |zero=>cases c with
      |succ _=>cases he
      |zero=>exact Pc1 (f:=λ_=>.v (.slice none 0 0)) he H'
   |_=>cases he
  |_=>intro he _;cases he
 |mkfn f xs =>
  simp only[evalOp] at he ⊢;cases hb:Nat.ble bfB f with
  |false =>
   simp only[hb] at he ⊢
   split at he
   ·exact Ma0 he H'
   ·cases he
  |true =>
   simp only[hb] at he ⊢
   split at he
   ·exact Ma0 he H'
   ·cases he
 |ext y i =>
  simp only[evalOp] at he ⊢
  revert he
  cases c9 E a y<;>intro he<;>first | exact Rb6 he H' | cases he
 |field off n agg y =>
  simp only[evalOp] at he ⊢
  revert he
  cases c9 E a y with
  |agg cs =>
   intro he
   simp only at he ⊢
   split at he
   ·exact Rb6 he H'
   ·cases he
  |_=>intro he;cases he
 |index ks n es agg y i =>
  simp only[evalOp] at he ⊢
  revert he
  cases la4 (c9 E a i) with
  |none=>cases c9 E a y<;>intro he<;>cases he
  |some m =>
   cases c9 E a y with
   |agg cs =>
    intro he
    simp only at he ⊢
    obtain⟨h1,h2⟩:=DT.run_guard_some he;obtain⟨e,h3⟩:=Rb6 h2 H';exact⟨e,by rw[DT.guard,DT.run_ite,h1];exact h3⟩
   |_=>intro he;cases he
 |bin op y z=>exact Pc1 (f:=λr=>r) he H'
 |eqn k neg y z o ts =>
  obtain⟨h1,h2⟩:=DT.run_guard_some he;obtain⟨e,h3⟩:=Rb6 h2 H';exact⟨e,by rw[evalOp,DT.guard,DT.run_ite,h1];exact h3⟩
 |eqc neg fl y z =>
  simp only[evalOp] at he ⊢
  revert he
  cases c9 E a y with
  |agg cs =>
   cases c9 E a z with
   |agg ds=>intro he;exact xb6 he H'
   |_=>intro he;cases he
  |_=>intro he;cases he
 |not y =>
  simp only[evalOp] at he ⊢
  revert he
  cases c9 E a y with
  |v u=>cases u<;>intro he<;>first | exact Ma0 he H' | cases he
  |_=>intro he;cases he
 |neg y =>
  simp only[evalOp] at he ⊢
  revert he
  cases c9 E a y with
  |v u=>cases u<;>intro he<;>first | exact Ma0 he H' | cases he
  |_=>intro he;cases he
 |gen o ts=>exact Rb6 he H'
 |len y=>exact Rb6 he H'
 |sidx y z =>
  simp only[evalOp] at he ⊢
  revert he
  cases c9 E a y with
  |v u=>cases u with
   |string q =>
    intro he;cases hm:la4 (c9 E a z) with
    |none=>simp only[hm] at he;cases he
    |some m =>
     simp only[hm] at he ⊢;exact xb6 he H'
   |_=>intro he;cases he
  |_=>intro he;cases he
 |slen y =>
  simp only[evalOp] at he ⊢
  revert he
  cases c9 E a y with
  |v u=>cases u<;>intro he<;>first | exact Ma0 he H' | cases he
  |_=>intro he;cases he
 |_=>cases ho
end
section
variable{E:Env}{a:List b7}{H H1:List c7}
theorem Z6.disown(H:List c7)(l id:Nat):Z6 H (disown H l) id:=λb hb=>by
 unfold Ev.disown modAt;rw[F7];by_cases e:l=id
 ·subst e;simp only[hb,H6];rw[Qbx (Qab.1 hb).1];exact⟨_,rfl,rfl,rfl,rfl,rfl,rfl⟩
 ·cases H[l]? with
  |none=>exact⟨b,hb,.refl b⟩
  |some c =>
   simp only[H6];rw[Qah e];exact⟨b,hb,.refl b⟩
theorem Z6.setAt(H:List c7){l id:Nat}(c:c7)(hne:l≠id):Z6 H (Ev.setAt H l c) id:=λb hb=>by
 rw[H6,Qah hne];exact⟨b,hb,.refl b⟩
theorem Z6.modAt(H:List c7){l id:Nat}(f:c7->c7)(hne:l≠id):Z6 H (Ev.modAt H l f) id:=by
 unfold Ev.modAt;cases nth H l with
 |none=>exact .refl _ _
 |some c=>exact .setAt H _ hne
theorem Z6.app(H l:List c7)(id:Nat):Z6 H (Ev.app H l) id:=λb hb=>by
 rw[K6,Qbb (Qab.1 hb).1];exact⟨b,hb,.refl b⟩
theorem Ad3{x y:b7}(h:freezeCell H x=some (y,H1))(id:Nat):Z6 H H1 id:=by
 unfold freezeCell at h;cases x with
 |v u =>
  simp only at h
  split at h
  ·injection h with h;injection h with e1 e2;subst e2;exact .refl _ _
  ·cases h
 |tree es n get=>simp only at h;injection h with h;injection h with e1 e2;subst e2;exact .refl _ _
 |fn f caps =>
  simp only at h
  split at h
  ·injection h with h;injection h with e1 e2;subst e2;exact .refl _ _
  ·cases h
 |sl l off n g =>
  simp only at h
  split at h
  ·injection h with h;injection h with e1 e2;subst e2;exact .disown _ _ _
  ·cases h
 |_=>cases h
theorem ab1:∀{xs ys:List b7} {H H1:List c7},freezeCells H xs=some (ys,H1)->∀id,Z6 H H1 id
 |[],ys,H,H1,h,id=>by
  simp only[freezeCells] at h;injection h with h;injection h with e1 e2;subst e2;exact .refl _ _
 |x::xs,ys,H,H1,h,id=>by
  simp only[freezeCells] at h;cases h1:freezeCell H x with
  |none=>simp[h1] at h
  |some p =>
  obtain⟨y,Ha⟩:=p;simp only[h1] at h;cases h2:freezeCells Ha xs with
  |none=>simp[h2] at h
  |some q =>
  obtain⟨l,Hb⟩:=q;simp only[h2] at h;injection h with h;injection h with e1 e2;subst e2
  exact (Ad3 h1 id).trans (ab1 h2 id)
theorem de9{roots r:List Nat}{id j:Nat}(h:Sa4 roots id=(j,r)){y:Nat}(hy:y∈r):y∈roots\/y=id:=by
 unfold Sa4 at h
 split at h
 ·simp_all
 ·rw[K6] at h
  grind
theorem ed0{p q:Pa8}{x z:b7}(h:capArg H p x=some (z,q)){y:Nat}(hy:y∈q.roots):y∈p.roots\/y∈ob9 [x]:=by
 have hsame:∀{z':b7},some (z',p)=some (z,q)->y∈p.roots\/y∈ob9 [x]:=λ{z'} e=>by
  injection e with e;injection e with e1 e2;subst e2;exact .inl hy
 unfold capArg at h;cases x with
 |v u=>exact hsame h
 |tree es n get=>exact hsame h
 |tptr cs=>exact hsame h
 |fn f caps=>cases caps with
  |nil=>exact hsame h
  |cons=>cases h
 |ptr id i c g =>
  simp only at h
  split at h
  ·cases hi:Sa4 p.roots id with
   |mk j r =>
    simp only[hi] at h;injection h with h;injection h with e1 e2;subst e2
    rcases de9 hi hy with h|h
    ·exact .inl h
    ·subst h;exact .inr (by show y∈y::_;exact Qcj)
  ·cases h
 |sl id off n g =>
  grind
 |_=>cases h
theorem Dc4 (x : b7) (l : List b7) : ob9 (x :: l) = match x with
  |.ptr id _ _ _=>id::ob9 l
  |_=>ob9 l:=rfl
theorem Ad4{x:b7}{l:List b7}{y:Nat}:y∈ob9 (x::l)↔y∈ob9 [x]\/y∈ob9 l:=by
 rw[Dc4,Dc4]
 have:ob9 []=[]:=rfl
 cases x<;>simp[this]
theorem dc6:∀{xs zs:List b7} {p q:Pa8},capArgs H p xs=some (zs,q)->∀{y:Nat},y∈q.roots->y∈p.roots\/y∈ob9 xs
 |[],zs,p,q,h,y,hy=>by
  simp only[capArgs] at h
  simp_all
 |x::xs,zs,p,q,h,y,hy=>by
  simp only[capArgs] at h;cases h1:capArg H p x with
  |none=>simp[h1] at h
  |some r =>
  obtain⟨z,p1⟩:=r;simp only[h1] at h;cases h2:capArgs H p1 xs with
  |none=>simp[h2] at h
  |some r2 =>
  obtain⟨l,p2⟩:=r2;simp only[h2] at h;injection h with h;injection h with e1 e2;subst e2
  rw[Ad4]
  rcases dc6 h2 hy with h|h
  ·rcases ed0 h1 h with h|h
   ·exact .inl h
   ·exact .inr (.inl h)
  ·exact .inr (.inr h)
theorem Dc5{own:Nat->Bool}:∀{xs zs:List b7} {p q:Pa8} {k:Nat},prepArgs H own p k xs=some (zs,q)->∀{y:Nat},y∈q.roots->y∈p.roots\/y∈ta3 own k xs
 |[],zs,p,q,k,h,y,hy=>by
  simp only[prepArgs] at h
  simp_all
 |x::xs,zs,p,q,k,h,y,hy=>by
  simp only[prepArgs] at h;cases h1:prepArg H (own k) p x with
  |none=>simp[h1] at h
  |some r =>
  obtain⟨z,p1⟩:=r;simp only[h1] at h;cases h2:prepArgs H own p1 (k+1) xs with
  |none=>simp[h2] at h
  |some r2 =>
  obtain⟨l,p2⟩:=r2;simp only[h2] at h;injection h with h;injection h with e1 e2;subst e2
  have hrest:∀{y},y∈ta3 own (k+1) xs->y∈ta3 own k (x::xs):=λ{y} hy=>by
   simp only[ta3];cases x with
   |ptr=>exact Qcm _ hy
   |sl=>cases own k<;>first | exact Qcm _ hy | exact hy
   |agg=>simp only[K6];exact Qcg _ hy
   |fn=>simp only[K6];exact Qcg _ hy
   |_=>exact hy
  rcases Dc5 h2 hy with h|h
  ·have hcap:∀{z':b7} {q':Pa8},capArg H p x=some (z',q')->q'=p1->y∈p.roots\/y∈ob9 [x]:=λe e2=>ed0 e (e2 ▸ h)
   unfold prepArg at h1;cases x with
   |v u =>
    simp_all
   |sl id off n g =>
    cases ho:own k with
    |false =>
     rw[ho] at h1
     rcases hcap h1 rfl with h|h
     ·exact .inl h
     ·cases h
    |true =>
     rw[ho] at h1
     simp only at h1
     split at h1
     ·split at h1
      ·cases hi:Sa4 p.roots id with
       |mk j r =>
        simp only[hi] at h1;injection h1 with h1;injection h1 with e1 e2;subst e2
        rcases de9 hi h with h|h
        ·exact .inl h
        ·subst h;refine .inr ?_;simp only[ta3,ho];exact Qcj
      ·cases h1
     ·cases h1
   |agg cs =>
    simp only at h1
    cases h3:capArgs H p cs with
    |none=>simp[h3] at h1
    |some r3 =>
    simp only[h3] at h1;injection h1 with h1;injection h1 with e1 e2;subst e2
    rcases dc6 h3 h with h|h
    ·exact .inl h
    ·refine .inr ?_;simp only[ta3,K6]
     simp_all
   |fn f cs =>
    simp only at h1
    cases h3:capArgs H p cs with
    |none=>simp[h3] at h1
    |some r3 =>
    simp only[h3] at h1;injection h1 with h1;injection h1 with e1 e2;subst e2
    rcases dc6 h3 h with h|h
    ·exact .inl h
    ·refine .inr ?_;simp only[ta3,K6]
     simp_all
   |ptr id i c g =>
    rcases hcap h1 rfl with h|h
    ·exact .inl h
    ·refine .inr ?_
     have:y=id:=by simpa [Dc4,show ob9 []=[] from rfl] using h
     subst this;simp only[ta3];exact Qcj
   |_ =>
    rcases hcap h1 rfl with h|h
    ·exact .inl h
    ·cases h
  ·exact .inr (hrest h)
theorem ed1:∀{roots:List Nat} {H out H1:List c7},putBack H roots out=some H1->∀{id:Nat},id∉roots->Z6 H H1 id
 |[],H,[],H1,h,id,_=>by
  simp only[putBack] at h;injection h with h;subst h;exact .refl _ _
 |[],H,c::out,H1,h,id,_=>by
  simp only[putBack] at h;injection h with h;subst h;exact .app _ _ _
 |r::roots,H,[],H1,h,id,_=>by simp[putBack] at h
 |r::roots,H,c::out,H1,h,id,hn=>by
  simp only[putBack] at h;simp only[Qbh,not_or] at hn;exact (Z6.modAt H _ (λe=>hn.1 e.symm)).trans (ed1 h hn.2)
theorem vd5(held:Bool)(H:List c7):∀(lent:List Nat) (id:Nat),Z6 H (settle lent held H) id
 |[],id=>.refl _ _
 |l::lent,id=>by
  have ih:=vd5 held H lent id;rw[Yb9];split
  ·exact ih.trans (.disown _ _ _)
  ·exact ih
theorem Yc2{f:FuncId}{args:List b7}{x:b7}(he:(callA E f args H).run=some (x,H1)){id:Nat}(hid:id∉ta3 (E.own f) 0 args):Z6 H H1 id:=by
 unfold callA at he;cases hpr:prepArgs H (E.own f) { roots:=[],lent:=[] } 0 args with
 |none=>rw[hpr] at he;cases he
 |some q =>
 obtain⟨Dc1,p⟩:=q;rw[hpr] at he
 simp only at he
 have hroot:id∉p.roots:=λh=>by
  rcases Dc5 hpr h with h|h
  ·cases h
  ·exact hid h
 split at he
 ·obtain⟨⟨r,out⟩,_,he⟩:=DT.run_bind_some he
  simp only at he
  cases hpb:putBack H p.roots out with
  |none=>rw[hpb] at he;cases he
  |some H2 =>
  rw[hpb] at he;simp only[DT.run_ret] at he;injection he with he;injection he with e1 e2;subst e2
  exact (ed1 hpb hroot).trans (vd5 _ _ _ _)
 ·cases he
theorem me6{o:PO}(ho:Ed4 o=true){x:b7}(he:(evalOp E a H o).run=some (x,H1)){id:Nat}(hid:id∉aa9 E a o):Z6 H H1 id:=by
 cases o with
 |alloc z =>
  simp only[evalOp,DT.run_ret] at he;injection he with he;injection he with e1 e2;subst e2
  exact .app _ _ _
 |box y =>
  simp only[evalOp] at he;cases hf:freezeCells H (L8 (c9 E a y)) with
  |none=>rw[hf] at he;cases he
  |some p =>
  rw[hf] at he;simp only[DT.run_ret] at he;injection he with he;injection he with e1 e2;subst e2
  exact (ab1 hf id).trans (.app _ _ _)
 |bslice et es n z parts =>
  simp only[evalOp] at he
  split at he
  ·rename_i cs _;cases hf:freezeCells H cs with
   |none=>rw[hf] at he;cases he
   |some p =>
   rw[hf] at he;simp only[DT.run_ret] at he;injection he with he;injection he with e1 e2;subst e2
   exact (ab1 hf id).trans (.app _ _ _)
  ·cases he
 |mksl et es bytes z l c =>
  simp only[evalOp] at he
  split at he
  ·obtain⟨_,h⟩:=DT.run_guard_some he;simp only[DT.run_ret] at h;injection h with h;injection h with e1 e2;subst e2
   exact .app _ _ _
  ·cases he
 |store n p y =>
  have hid':id∉Ea7 (c9 E a p):=hid;simp only[evalOp] at he
  revert he hid'
  cases c9 E a p with
  |ptr l i c g =>
   intro he hid'
   simp only at he
   cases hf:freezeCells H (L8 (c9 E a y)) with
   |none=>rw[hf] at he;cases he
   |some q =>
   rw[hf] at he
   simp only at he
   split at he
   ·obtain⟨_,he⟩:=DT.run_guard_some he;simp only[DT.run_ret] at he;injection he with he;injection he with e1 e2;subst e2
    exact (ab1 hf id).trans (.setAt _ _ λe=>hid' (by simp[Ea7,e]))
   ·cases he
  |_=>intro he _;cases he
 |append et es bytes s y =>
  have hid':id∉Ea7 (c9 E a s):=hid;have he':(appendA et es bytes (c9 E a s) (c9 E a y) H).run=some (x,H1):=he
  revert he' hid'
  generalize c9 E a s=u;intro hid' he;unfold appendA at he
  split at he
  ·split at he
   ·rcases DT.run_ite_some he with⟨_,h⟩|⟨_,h⟩
    ·simp only[DT.run_ret] at h;injection h with h;injection h with e1 e2;subst e2;exact .refl _ _
    ·obtain⟨_,h⟩:=DT.run_guard_some h;simp only[DT.run_ret] at h;injection h with h;injection h with e1 e2;subst e2;exact .app _ _ _
   ·split at he
    ·split at he
     ·obtain⟨_,h⟩:=DT.run_guard_some he;simp only[DT.run_ret] at h;injection h with h;injection h with e1 e2;subst e2
      exact .setAt _ _ λe=>hid' (by simp[Ea7,e])
     ·cases he
    ·cases he
   ·cases he
  ·cases he
 |copy es d s=>cases he
 |apre es s y =>
  have hid':id∉Ea7 (c9 E a s):=hid;have he':(apreA es (c9 E a s) (c9 E a y) H).run=some (x,H1):=he
  revert he' hid'
  generalize c9 E a s=u;intro hid' he;unfold apreA at he
  split at he
  ·split at he
   ·obtain⟨_,h⟩:=DT.run_guard_some he;simp only[DT.run_ret] at h;injection h with h;injection h with e1 e2;subst e2;exact .refl _ _
   ·split at he
    ·split at he
     ·obtain⟨_,h⟩:=DT.run_guard_some he;simp only[DT.run_ret] at h;injection h with h;injection h with e1 e2;subst e2
      exact .setAt _ _ λe=>hid' (by simp[Ea7,e])
     ·cases he
    ·cases he
   ·cases he
  ·cases he
 |clr es z y =>
  have hid':id∉Ea7 (c9 E a y):=hid;have he':clrA es z (c9 E a y) H=some (x,H1):=ic8 he
  revert he' hid'
  generalize c9 E a y=u;intro hid' he;unfold clrA at he
  split at he
  ·injection he with he;injection he with e1 e2;subst e2;exact .refl _ _
  ·split at he
   ·split at he
    ·injection he with he;injection he with e1 e2;subst e2
     exact .setAt _ _ λe=>hid' (by simp[Ea7,e])
    ·cases he
   ·cases he
  ·cases he
 |asl n es y =>
  have he':aslA n es (c9 E a y) H=some (x,H1):=ic8 he
  revert he'
  generalize c9 E a y=u;intro he;unfold aslA at he
  split at he
  ·split at he
   ·split at he
    ·injection he with he;injection he with e1 e2;subst e2;exact .disown _ _ _
    ·cases he
   ·cases he
  ·cases he
 |call f args=>exact Yc2 he hid
 |calld y args =>
  have hid':id∉aa9 E a (.calld y args):=hid;simp only[evalOp] at he;simp only[aa9] at hid'
  revert he hid'
  cases c9 E a y with
  |fn f caps =>
   intro he hid'
   simp only at he hid'
   cases hb:Nat.ble bfB f with
   |false=>rw[hb] at he hid';exact Yc2 he hid'
   |true =>
    rw[hb] at he hid';cases caps with
    |nil=>cases he
    |cons c cs=>exact Yc2 he hid'
  |_=>intro he;cases he
 |invk tbl y args=>cases he
 |bad=>cases he
 |_=>cases ho
end
theorem Dc6{E:Env}:∀(l r:List PI) (s:St),U4 E (l++r) s=(U4 E l s).bind (U4 E r)
 |[],r,s=>rfl
 |p::l,r,s=>by
  have e1:U4 E (p::l++r) s=(ob8 E s p).bind (U4 E (l++r)):=rfl;have e2:U4 E (p::l) s=(ob8 E s p).bind (U4 E l):=rfl;rw[e1,e2]
  have:U4 E (l++r)=λs=>(U4 E l s).bind (U4 E r):=funext λs=>Dc6 l r s
  rw[this];generalize ob8 E s p=d
  induction d with
  |ret x=>rfl
  |fail=>rfl
  |ite b t e iht ihe=>simp only[DT.bind_ite,iht,ihe]
def pc0(E:Env)(f:Nat->Option PI)(T:Nat->St)(j:Nat):Prop:=match f j with
 |some p=>(ob8 E (T j) p).run=some (T (j+1))
 |none=>T (j+1)=T j
theorem pb4{E:Env}(f:Nat->Option PI):∀(n:Nat) (s s':St),(U4 E ((List.range n).filterMap f) s).run=some s'->∃T:Nat->St,T 0=s/\T n=s'/\∀j,j<n->pc0 E f T j
 |0,s,s',h=>⟨λ_=>s,rfl,by simpa [U4] using h,λj hj=>by omega⟩
 |n+1,s,s',h=>by
  rw[List.range_succ,List.filterMap_append,Dc6] at h;obtain⟨s1,h1,h2⟩:=DT.run_bind_some h;obtain⟨T,t0,t1,t2⟩:=pb4 f n s s1 h1;refine⟨λj=>if j<=n then T j else s',by simp[t0],if_neg (by omega),λj hj=>?_⟩
  unfold pc0;by_cases hjn:j<n
  ·have:=t2 j hjn
   unfold pc0 at this
   grind
  ·have:j=n:=by omega
   subst this;simp only[Qaf,if_true,show ¬ (j+1<=j) from by omega,if_false,t1]
   cases hf:f j with
   |none =>
    simp only[List.filterMap_cons,hf,List.filterMap_nil] at h2;have h2':some s1=some s':=h2
    simp_all
   |some p =>
    simp only[List.filterMap_cons,hf,List.filterMap_nil] at h2;have h2':((ob8 E s1 p).bind (U4 E [])).run=some s':=h2;obtain⟨s2,h3,h4⟩:=DT.run_bind_some h2';have h4':some s2=some s':=h4
    simp_all
open Classical in
def qa3(H:List c7)(D:Nat->Prop):List c7:=H.mapIdx λi b=>if D i then { b with dead:=true } else b
open Classical in
def vb8(a b:List b7)(D:Nat->Prop):List b7:=a.mapIdx λi x=>if D i then (b[i]?).getD .unk else x
section
variable{H H' H0:List c7}{D D':Nat->Prop}{a c:List b7}
theorem Pb8:(qa3 H D).length=H.length:=by simp[qa3]
theorem ea4{i:Nat}(h:¬ D i):(qa3 H D)[i]?=H[i]?:=by
 simp only[qa3,Qcd,if_neg h];cases H[i]?<;>rfl
theorem Ea9{i:Nat}(h:D i):(qa3 H D)[i]?=(H[i]?).map λb=>{ b with dead:=true }:=by
 simp only[qa3,Qcd,if_pos h]
theorem Qe3{i:Nat}{b:c7}(h:(qa3 H D)[i]?=some b)(hd:b.dead=false):¬ D i/\H[i]?=some b:=by
 by_cases hD:D i
 ·rw[Ea9 hD] at h
  grind
 ·exact⟨hD,by rwa [ea4 hD] at h⟩
theorem xb7:(vb8 a c D).length=a.length:=by simp[vb8]
theorem xb8{i:Nat}(h:¬ D i):(vb8 a c D)[i]?=a[i]?:=by
 simp only[vb8,Qcd,if_neg h];cases a[i]?<;>rfl
theorem ed2{i:Nat}(h:D i)(hi:i<a.length):(vb8 a c D)[i]?=some ((c[i]?).getD .unk):=by
 simp only[vb8,Qcd,if_pos h,Qaa hi,Option.map_some]
theorem Qe4(h:∀i,¬ D i):vb8 a c D=a:=Qce λi=>xb8 (h i)
theorem Qe5(h:∀i,¬ D i):qa3 H D=H:=Qce λi=>ea4 (h i)
theorem Be2(H:List c7)(d:Nat)(l:List Nat):Wc8 H (d::l)=modAt (Wc8 H l) d λb=>{ b with dead:=true }:=rfl
theorem tf6(H:List c7)(f:c7->c7)(d i:Nat):(modAt H d f)[i]?=if d=i then (H[i]?).map f else H[i]?:=by
 unfold modAt;rw[F7];by_cases e:d=i
 ·subst e;rw[if_pos rfl];cases h:H[d]? with
  |none=>simp[h]
  |some b=>simp only[H6];rw[Qbx (Qab.1 h).1];rfl
 ·rw[if_neg e];cases h:H[d]? with
  |none=>rfl
  |some b=>simp only[H6];rw[Qah e]
theorem kf6(l:List Nat):Wc8 H l=qa3 H (·∈l):=by
 refine Qce λi=>?_
 induction l with
 |nil=>rw[ea4 (by simp)];rfl
 |cons d l ih =>
  rw[Be2,tf6,ih];by_cases e:d=i
  ·subst e;rw[if_pos rfl,Ea9 (D:=(·∈d::l)) (by simp)]
   by_cases hd:d∈l
   ·rw[Ea9 hd];cases H[d]?<;>rfl
   ·rw[ea4 hd]
  ·rw[if_neg e];by_cases hd:i∈l
   ·rw[Ea9 hd,Ea9 (D:=(·∈d::l)) (by simp[hd])]
   ·rw[ea4 hd,ea4 (D:=(·∈d::l)) (by simp[hd];exact λh=>e h.symm)]
theorem Dc7 (H0 H : List c7) (d : Nat) (l : List Nat) : Hb3 H0 H (d :: l) = match nth H0 d with
  |some b=>setAt (Hb3 H0 H l) d b
  |none=>Hb3 H0 H l:=rfl
theorem Qe6(l:List Nat):(Hb3 H0 H l).length=H.length:=by
 induction l with
 |nil=>rfl
 |cons d l ih =>
  rw[Dc7];split
  ·rw[H6];simp[ih]
  ·exact ih
theorem Id3{l:List Nat}{i:Nat}(h:i∉l):(Hb3 H0 H l)[i]?=H[i]?:=by
 induction l with
 |nil=>rfl
 |cons d l ih =>
  simp only[Qbh,not_or] at h;rw[Dc7];split
  ·rw[H6,Qah (λe=>h.1 e.symm)];exact ih h.2
  ·exact ih h.2
theorem od3{l:List Nat}{i:Nat}(h:i∈l)(h0:i<H0.length)(h1:i<H.length):(Hb3 H0 H l)[i]?=H0[i]?:=by
 induction l with
 |nil=>cases h
 |cons d l ih =>
  rw[Dc7,F7];by_cases e:d=i
  ·subst e;rw[Qaa h0];simp only[H6];rw[Qbx (by rw[Qe6];exact h1)]
  ·have hm:i∈l:=(Qbh.1 h).resolve_left λh=>e h.symm
   split
   ·rw[H6,Qah e];exact ih hm
   ·exact ih hm
end
section
variable{ops:Array Oper}{M:List Nat}
theorem lb6{o:Oper}{i:Nat}:i∈L3 o↔∃e∈o.after,Region.binds .any e=true/\e.on=i:=by
 simp[L3,and_assoc]
theorem Pc2(h:le5 ops M=true){j:Nat}{o:Oper}(ho:ops[j]?=some o){i:Nat}(hi:i∈L3 o):i<j:=by
 have hj:=(Qak.1 ho).1
 have:=Qcc.1 h j (Qca.2 hj)
 simp_all
theorem vd6(h:le5 ops M=true)(ex:Nat->Prop)(hex:∀(j:Nat) o,ops[j]?=some o->ex j->∀i∈L3 o,ex i) :
  ∀(j:Nat) (o:Oper),ops[j]?=some o->(∀i∈L3 o,ex i)->∀i,i<ops.size->G9 M i j=true->ex i:=by
 intro j
 induction j using Nat.strongRecOn with
 |_ j ih =>
  intro o ho hd i hi hb;have hj:=(Qak.1 ho).1
  have:=Qcc.1 h j (Qca.2 hj)
  simp only[ho,Qas] at this;have h2:=Qcc.1 this.2 i (Qca.2 hi);unfold G9 at hb;rw[hb] at h2;simp only[Bool.not_true,Bool.false_or,List.any_eq_true,Qci] at h2;obtain⟨m,hm,h3⟩:=h2
  rcases h3 with h3|h3
  ·simp_all
  ·have hlt:=Pc2 h ho hm;have hms:m<ops.size:=by omega
   have hom:ops[m]?=some ops[m]:=Qac hms;exact ih m hlt _ hom (hex m _ hom (hd m hm)) i hi h3
end
def Ad5(E:Env)(a:List b7)(g:Option (Nat×Bool)):Option Bool :=
 match g with
 |none=>some true
 |some (d,want)=>match c9 E a (.t d) with
  |.v (.bool b)=>some (match want with | true=>b | false=>!b)
  |.v (.tuple _)=>some false
  |_=>none
section
variable{E:Env}{a a':List b7}{s s':St}{p:PI}
theorem Yc3{g:Option (Nat×Bool)}(h:Agr a a' (Xc4 g)):Ad5 E a g=Ad5 E a' g:=by
 cases g with
 |none=>rfl
 |some g =>
  obtain⟨d,want⟩:=g;simp only[Ad5];rw[Agr.t (E:=E) (h d (by simp[Xc4]))]
theorem ed3(he:(ob8 E s p).run=some s'):∃b,Ad5 E s.a p.guard=some b/\(b=true->(Ad0 E s p).run=some s')/\(b=false->s'=⟨putA s.a p.dst (.v (.tuple #[])),s.H⟩):=by
 obtain⟨dst,g,hide,op⟩:=p;cases g with
 |none=>exact⟨true,rfl,λ_=>he,λh=>by cases h⟩
 |some g =>
  obtain⟨d,want⟩:=g;rw[vd3] at he;simp only[Ad5]
  revert he
  generalize c9 E s.a (.t d)=u;intro he
  split at he
  ·rename_i b
   rcases DT.run_ite_some he with⟨h1,h2⟩|⟨h1,h2⟩
   ·grind
   ·exact⟨false,congrArg some h1,λh=>by (cases h),λ_=>by simpa using h2.symm⟩
  ·simp_all
  ·cases he
theorem Be3{ρ:Rho}{H:List c7}{F:Fz}{w:World}{ops:Array Oper}{o:Oper}{g:Option (Nat×Bool)}{tmps:Array Value}{b:Bool}(hg:la5 ops o=some g)(hA:Ia4 ρ H F w a tmps)(ho:Ad5 E a g=some b) :
  Region.wanted o (yielded ops tmps)=b:=by
 unfold la5 at hg;unfold Region.wanted;cases hgo:o.guard with
 |none =>
  simp only[hgo] at hg ⊢;injection hg with hg;subst hg;injection ho
 |some jw =>
  obtain⟨j,want⟩:=jw;simp only[hgo] at hg ⊢;cases hj:ops[j]? with
  |none=>simp[hj] at hg
  |some oj =>
  simp only[hj] at hg;cases hd:oj.dst with
  |none=>simp[hd] at hg
  |some d =>
  simp only[hd] at hg;injection hg with hg;subst hg;have hrel:∀v,c9 E a (.t d)=.v v->tmps[d]?=some v:=λv hv=>by
   rw[Mb7] at hv
   rcases Qaq d a.length with hlt|hge
   ·rw[Qaa hlt] at hv;have hlt':d<tmps.size:=hA.1 ▸ hlt;have h1:=hA.2 d _ _ (Qaa hlt) (Qac hlt');simp only[Option.getD_some] at hv;rw[hv] at h1;rw[Qac hlt',fa0 h1]
   ·rw[Qat hge] at hv;cases hv
  simp only[Ad5] at ho
  revert ho hrel
  generalize c9 E a (.t d)=u;intro ho hrel
  split at ho
  ·rename_i b';rw[oc9 hj hd (hrel _ rfl)];injection ho with ho;subst ho
   grind
  ·rename_i vs;rw[dc5 hj hd (hrel _ rfl)];injection ho with ho
  ·cases ho
theorem Be4(he:(Ad0 E s p).run=some s'):∃x H',(evalOp E s.a (Wc8 s.H (Hb2 s.a p.hide)) p.op).run=some (x,H')/\s'=⟨putA s.a p.dst x,Hb3 s.H H' (Hb2 s.a p.hide)⟩:=by
 unfold Ad0 at he;obtain⟨⟨x,H1⟩,h1,h2⟩:=DT.run_bind_some he;have h2':some (⟨putA s.a p.dst x,H1⟩:St)=some s':=h2;injection h2' with h2';subst h2';cases hh:p.hide with
 |nil =>
  rw[hh] at h1;exact⟨x,H1,h1,rfl⟩
 |cons d l =>
  rw[hh] at h1;have h1':((evalOp E s.a (Wc8 s.H (Hb2 s.a (d::l))) p.op).bind λr=>.ret (r.1,Hb3 s.H r.2 (Hb2 s.a (d::l)))).run=some (x,H1):=h1
  obtain⟨⟨y,H'⟩,h3,h4⟩:=DT.run_bind_some h1';have h4':some (y,Hb3 s.H H' (Hb2 s.a (d::l)))=some (x,H1):=h4
  grind
end
def Sa0(ops:Array Oper)(j:Nat):Oper:=ops.getD j default
theorem xa7{ops:Array Oper}{j:Nat}(h:j<ops.size):ops[j]?=some (Sa0 ops j):=by simp[Sa0,Array.getD,h]
def Yc4(ops:Array Oper)(j:Nat):Option (Nat×Bool):=(la5 ops (Sa0 ops j)).getD none
def R8(tr:Nat)(P:Program)(ops:Array Oper)(j:Nat):Nat:=Tc7 tr P ops (Sa0 ops j)
def ba4(tr:Nat)(P:Program)(ops:Array Oper)(j:Nat):PO:=Qb9 tr (ic9 P ops (Sa0 ops j))
def oa0(ops:Array Oper)(j:Nat):Option Nat:=(Sa0 ops j).dst
def Sc2(tr:Nat)(P:Program)(ops:Array Oper)(M:List Nat)(j:Nat):PI:=⟨oa0 ops j,Yc4 ops j,if Nat.beq (R8 tr P ops j) 2 then nd4 ops M j else [],ba4 tr P ops j⟩
theorem Ze3{tr:Nat}{P:Program}{ops:Array Oper}{M:List Nat}:∀{r:List Oper} {k:Nat} {ks:List (Nat×PI)},ye1 tr P ops M k r=some ks->∀(i:Nat) o,r[i]?=some o ->
  ∃g,la5 ops o=some g/\ks[i]?=some (Tc7 tr P ops o,⟨o.dst,g,if Nat.beq (Tc7 tr P ops o) 2 then nd4 ops M (k+i) else [],Qb9 tr (ic9 P ops o)⟩)
 |[],k,ks,h,i,o,ho=>by simp at ho
 |o'::r,k,ks,h,i,o,ho=>by
  simp only[ye1] at h;cases h1:cPI tr P ops M k o' with
  |none=>simp[h1] at h
  |some x =>
  cases h2:ye1 tr P ops M (k+1) r with
  |none=>simp[h1,h2] at h
  |some l =>
  simp only[h1,h2] at h;injection h with h;subst h;cases i with
  |zero =>
   simp at ho
   subst ho;unfold cPI at h1
   grind
  |succ i =>
   obtain⟨g,h3,h4⟩:=Ze3 h2 i o (by simpa using ho)
   grind
structure DC(tr:Nat)(P:Program)(ops:Array Oper)(M:List Nat)(ks:List (Nat×PI)):Prop where
 rows:le5 ops M=true
 guard:∀j,j<ops.size->la5 ops (Sa0 ops j)=some (Yc4 ops j)
 at':∀j,j<ops.size->ks[j]?=some (R8 tr P ops j,Sc2 tr P ops M j)
 one:∀j,j<ops.size->Nc8 ops M ks j=true
section
variable{tr:Nat}{P:Program}{ops:Array Oper}{M:List Nat}{ks:List (Nat×PI)}
theorem od4{dsts:List Nat}{asq l:List PI}{ps:List (PO×PO)}(h:pb3 tr P ops=.draw dsts asq l ps) :
  ∃M ks,DC tr P ops M ks/\dsts=ops.toList.filterMap (·.dst)/\asq=(List.range ops.size).filterMap (Yb7 ks)/\l=(List.range ops.size).filterMap (Tc8 ks)/\ps=Qa9 ops.size M ks:=by
 unfold pb3 at h
 simp only at h
 cases hk:ye1 tr P ops (Region.before ops).toList 0 ops.toList with
 |none=>simp[hk] at h
 |some ks =>
 simp only[hk,Gd4] at h
 split at h
 case h_2=>cases h
 rename_i hc;injection h with e1 e2 e3 e4;rw[Qas] at hc;refine⟨_,ks,⟨hc.1,λj hj=>?_,λj hj=>?_,λj hj=>Qcc.1 hc.2 j (Qca.2 hj)⟩,e1.symm,e2.symm,e3.symm,e4.symm⟩
 all_goals
  obtain⟨g,h1,h2⟩:=Ze3 hk j (Sa0 ops j) (by simpa using xa7 hj)
  have hg:Yc4 ops j=g:=by simp[Yc4,h1]
 ·rw[hg];exact h1
 ·rw[h2];simp only[Sc2,hg,Qar,R8,ba4,oa0];rfl
theorem Be5{dsts:List Nat}{asq l:List PI}{ps:List (PO×PO)}(h:bb6 P ops=.draw dsts asq l ps) :
  ∃tr M ks,DC tr P ops M ks/\dsts=ops.toList.filterMap (·.dst)/\asq=(List.range ops.size).filterMap (Yb7 ks)/\l=(List.range ops.size).filterMap (Tc8 ks)/\ps=Qa9 ops.size M ks:=by
 unfold bb6 at h
 split at h
 ·rename_i a b c d h1;injection h with e1 e2 e3 e4;subst e1 e2 e3 e4;exact⟨0,od4 h1⟩
 ·split at h
  ·rename_i a b c d h1;injection h with e1 e2 e3 e4;subst e1 e2 e3 e4;exact⟨1,od4 h1⟩
  ·exact⟨2,od4 h⟩
theorem jc1(j:Nat):R8 tr P ops j=0\/R8 tr P ops j=1\/R8 tr P ops j=2:=by
 unfold R8 Tc7
 grind
theorem Be6{j:Nat}(h:R8 tr P ops j=1):Ed1 (ba4 tr P ops j)=true:=by
 unfold R8 Tc7 at h
 split at h
 ·cases h
 ·split at h
  ·assumption
  ·cases h
theorem Id4(o:PO):Ed1 o=true\/Ed4 o=true:=by cases o<;>first | exact .inl rfl | exact .inr rfl
theorem ed4{j:Nat}(h:R8 tr P ops j=2):Ed4 (ba4 tr P ops j)=true:=by
 unfold R8 Tc7 at h
 split at h
 ·cases h
 ·split at h
  ·cases h
  ·rename_i h2;exact (Id4 _).resolve_left h2
theorem Id5{j:Nat}(h:R8 tr P ops j=0):Bb4 (Sa0 ops j)=true:=by
 unfold R8 Tc7 at h
 grind
variable(hD:DC tr P ops M ks)
include hD
theorem DC.slots{i j d:Nat}(hi:i<ops.size)(hj:j<ops.size)(hd:oa0 ops i=some d) :
  (d∈Xc4 (Yc4 ops j)++Yb6 (ba4 tr P ops j)->G9 M i j=true\/(oc7 (ba4 tr P ops j)=true/\Bb4 (Sa0 ops i)=false/\(G9 M j i=true\/i=j)))/\(i=j\/oa0 ops j≠some d):=by
 have h:=hD.one j hj;unfold Nc8 at h;rw[hD.at' j hj] at h;simp only[Qas] at h;have h1:=Qcc.1 h.1.1.1 i (Qca.2 hi);have hd':(Sa0 ops i).dst=some d:=hd;simp only[xa7 hi,hd',Qas,Qci,Qcb] at h1;refine⟨λhm=>?_,?_⟩
 ·rcases h1.1 with (h2|h2)|h2
  ·have:(Xc4 (Yc4 ops j)++Yb6 (ba4 tr P ops j)).contains d=false:=h2
   simp_all
  ·exact .inl h2
  ·exact .inr ⟨h2.1.1,h2.1.2,h2.2.imp id Qad⟩
 ·rcases h1.2 with h2|h2
  ·simp_all
  ·refine .inr λe=>?_
   have h3:(oa0 ops j != some d)=true:=h2;rw[e] at h3
   simp at h3
theorem DC.bare{j:Nat}(hj:j<ops.size):ye2 (ba4 tr P ops j)=true:=by
 have h:=hD.one j hj;unfold Nc8 at h;rw[hD.at' j hj] at h;simp only[Qas] at h;exact h.1.1.2
theorem DC.allocDst{j:Nat}(hj:j<ops.size)(h0:R8 tr P ops j=0):∃d,oa0 ops j=some d:=by
 have h:=hD.one j hj;unfold Nc8 at h;rw[hD.at' j hj] at h;simp only[Qas,Qci,Qcb] at h
 rcases h.1.2 with h2|h2
 ·rw[h0] at h2;cases h2
 ·exact Qbd.1 h2
theorem DC.chain{i j:Nat}(hi:i<j)(hj:j<ops.size)(hki:R8 tr P ops i=2)(hkj:R8 tr P ops j=2):G9 M i j=true/\∀a,G9 M a i=true->G9 M a j=true:=by
 have h:=hD.one j hj;unfold Nc8 at h;rw[hD.at' j hj] at h;simp only[Qas,Qci,Qcb] at h
 rcases h.2 with h2|h2
 ·rw[hkj] at h2;cases h2
 ·have h3:=Qcc.1 h2 i (Qca.2 hi);rw[hD.at' i (by omega),hki] at h3
  simp only[Qas] at h3;refine⟨h3.1,λa ha=>?_⟩
  have h4:=Qad h3.2;unfold G9 at ha ⊢
  grind
theorem DC.pair{i j:Nat}(hi:i<ops.size)(hj:j<ops.size)(hkj:R8 tr P ops j=1)(hki:R8 tr P ops i=2)(h1:G9 M i j=false)(h2:G9 M j i=false) :
  (ba4 tr P ops j,ba4 tr P ops i)∈Qa9 ops.size M ks:=by
 unfold Qa9;rw[Qcl];refine⟨j,Qca.2 hj,?_⟩;rw[hD.at' j hj,hkj]
 simp only
 rw[Qck];refine⟨i,Qca.2 hi,?_⟩;rw[hD.at' i hi,hki];simp[h1,h2,Sc2]
end
structure Id6(E:Env)(ops:Array Oper)(ks:List (Nat×PI))(s:St)(U T:Nat->St):Prop where
 u0:U 0=s
 u:∀j,j<ops.size->pc0 E (Yb7 ks) U j
 t0:T 0=U ops.size
 t:∀j,j<ops.size->pc0 E (Tc8 ks) T j
def me7(z:List b7):c7:={ et:=0,es:=z.length,elems:=[z],own:=true,dead:=false,g:=0 }
def Ad6:PO->Nat->b7
 |.alloc _,n=>.ptr n 0 0 0
 |_,n=>.sl n 0 0 0
def me8:PO->c7
 |.alloc z=>me7 z
 |.bslice et es _ _ _=>{ et,es,elems:=[],own:=true,dead:=false,g:=0 }
 |_=>me7 []
theorem kf7(o:PO):(me8 o).dead=false:=by cases o<;>rfl
theorem eg5(o:PO):(me8 o).g=0:=by cases o<;>rfl
theorem tf7{tr:Nat}{P:Program}{ops:Array Oper}{j:Nat}(ha:Bb4 (Sa0 ops j)=true){E:Env}{a:List b7}{H:List c7}{r:b7×List c7}(he:(evalOp E a H (ba4 tr P ops j)).run=some r) :
  (Sa0 ops j).guard=none/\∀a H,(evalOp E a H (ba4 tr P ops j)).run=some (Ad6 (ba4 tr P ops j) H.length,H++[me8 (ba4 tr P ops j)]):=by
 unfold Bb4 at ha;cases hop:(Sa0 ops j).op with
 |alloc t =>
  simp only[hop] at ha;have hg:(Sa0 ops j).guard=none:=by simpa using ha
  cases hz:zeT P t with
  |none =>
   exfalso;have hbad:ba4 tr P ops j=.bad:=by simp[ba4,Qb9,ic9,cOp,hop,hz]
   rw[hbad] at he;cases he
  |some z =>
   have hpo:ba4 tr P ops j=.alloc z:=by simp[ba4,Qb9,ic9,cOp,hop,hz]
   refine⟨hg,λa H=>?_⟩
   rw[hpo];simp only[evalOp,DT.run_ret,z6,Ea6,K6,Ad6,me8,me7]
 |buildSlice t n ps =>
  simp only[hop] at ha
  split at ha
  ·rename_i hps;have hg:(Sa0 ops j).guard=none:=by simpa using ha
   have hpo:ba4 tr P ops j=.bad\/∃e es,ba4 tr P ops j=.bslice e es 0 [] []:=by
    simp only[ba4,ic9,cOp,hop];cases P.underlying t with
    |none=>exact .inl rfl
    |some u =>
     cases u with
     |slice e =>
      simp only[hps];cases zeT P e with
      |none=>exact .inl rfl
      |some z =>
       simp only[xb4];split
       ·exact .inr ⟨e,szT P e,by simp[Qb9]⟩
       ·exact .inl rfl
     |_=>exact .inl rfl
   rcases hpo with hpo|⟨e,es,hpo⟩
   ·rw[hpo] at he;cases he
   ·refine⟨hg,λa H=>?_⟩
    rw[hpo];simp only[evalOp,s8,List.map_nil,wc4,freezeCells,DT.run_ret,z6,Ea6,K6,Ad6,me8,Sa3]
  ·cases ha
 |_=>simp[hop] at ha
theorem ed5(a:List b7)(dst:Option Nat)(x:b7):(putA a dst x).length=a.length:=by
 rw[Pc0];cases dst<;>simp
theorem ed6{a:List b7}{dst:Option Nat}{x:b7}{t:Nat}(h:dst≠some t):(putA a dst x)[t]?=a[t]?:=by
 rw[Pc0]
 grind
theorem Ed5{a:List b7}{d:Nat}{x:b7}(h:d<a.length):(putA a (some d) x)[d]?=some x:=by
 rw[Pc0]
 simp_all
section
variable{tr:Nat}{E:Env}{ops:Array Oper}{M:List Nat}{ks:List (Nat×PI)}{s:St}{U T:Nat->St}
variable(hD:DC tr E.P ops M ks)(hT:Id6 E ops ks s U T)
include hD
theorem jc2{i j:Nat}(hj:j<ops.size)(hi:i<ops.size)(hb:G9 M i j=true):i<j:=by
 refine vd6 hD.rows (· < j) (λm o ho hm i hi=>?_) j _ (xa7 hj) (λi hi=>Pc2 hD.rows (xa7 hj) hi) i hi hb
 have:=Pc2 hD.rows ho hi
 omega
theorem me9{j:Nat}(hj:j<ops.size)(h:R8 tr E.P ops j=0):Yb7 ks j=some (Sc2 tr E.P ops M j)/\Tc8 ks j=none:=by
 unfold Yb7 Tc8;rw[hD.at' j hj,h];exact⟨rfl,rfl⟩
theorem tf8{j:Nat}(hj:j<ops.size)(h:R8 tr E.P ops j≠0):Yb7 ks j=none/\Tc8 ks j=some (Sc2 tr E.P ops M j):=by
 unfold Yb7 Tc8;rw[hD.at' j hj]
 rcases jc1 (tr:=tr) (P:=E.P) (ops:=ops) j with h'|h'|h'
 ·exact absurd h' h
 ·rw[h'];exact⟨rfl,rfl⟩
 simp_all
include hT
theorem ne0{j:Nat}(hj:j<ops.size)(h:R8 tr E.P ops j≠0):U (j+1)=U j:=by
 have:=hT.u j hj
 unfold pc0 at this;rw[(tf8 hD hj h).1] at this;exact this
theorem ed7{j:Nat}(hj:j<ops.size)(h:R8 tr E.P ops j=0):T (j+1)=T j:=by
 have:=hT.t j hj
 unfold pc0 at this;rw[(me9 hD hj h).2] at this;exact this
theorem Zb0{j:Nat}(hj:j<ops.size)(h:R8 tr E.P ops j=0):∃d,(Sa0 ops j).guard=none/\oa0 ops j=some d/\(∀a H,(evalOp E a H (ba4 tr E.P ops j)).run=some (Ad6 (ba4 tr E.P ops j) H.length,H++[me8 (ba4 tr E.P ops j)])) /\
  U (j+1)=⟨putA (U j).a (some d) (Ad6 (ba4 tr E.P ops j) (U j).H.length),(U j).H++[me8 (ba4 tr E.P ops j)]⟩:=by
 have hst:=hT.u j hj;unfold pc0 at hst;rw[(me9 hD hj h).1] at hst;obtain⟨d,hd⟩:=hD.allocDst hj h;have ha:=Id5 h;have hg:(Sa0 ops j).guard=none:=by
  unfold Bb4 at ha
  split at ha
  ·simpa using ha
  ·split at ha
   ·simpa using ha
   ·cases ha
  ·cases ha
 have hgd:Yc4 ops j=none:=by simp[Yc4,la5,hg]
 have hhide:(Sc2 tr E.P ops M j).hide=[]:=by simp[Sc2,h]
 obtain⟨b,h1,h2,h3⟩:=ed3 hst;have hb:b=true:=by
  have:Ad5 E (U j).a (Yc4 ops j)=some b:=h1
  rw[hgd] at this;injection this with this;exact this.symm
 obtain⟨x,H',h4,h5⟩:=Be4 (h2 hb);rw[hhide] at h4 h5;have h4':(evalOp E (U j).a (U j).H (ba4 tr E.P ops j)).run=some (x,H'):=h4;obtain⟨_,hev⟩:=tf7 ha h4';refine⟨d,hg,hd,hev,?_⟩;rw[hev] at h4';injection h4' with h4';injection h4' with e1 e2;subst e1 e2;rw[h5];show (⟨putA (U j).a (oa0 ops j) _,_⟩:St)=_;rw[hd];rfl
theorem ne2{j:Nat}(hj:j<ops.size)(h:R8 tr E.P ops j≠0):∃b,Ad5 E (T j).a (Yc4 ops j)=some b /\
  (b=true->∃x H',(evalOp E (T j).a (Wc8 (T j).H (Hb2 (T j).a (Sc2 tr E.P ops M j).hide)) (ba4 tr E.P ops j)).run=some (x,H') /\
   T (j+1)=⟨putA (T j).a (oa0 ops j) x,Hb3 (T j).H H' (Hb2 (T j).a (Sc2 tr E.P ops M j).hide)⟩) /\
  (b=false->T (j+1)=⟨putA (T j).a (oa0 ops j) (.v (.tuple #[])),(T j).H⟩):=by
 have hst:=hT.t j hj;unfold pc0 at hst;rw[(tf8 hD hj h).2] at hst;obtain⟨b,h1,h2,h3⟩:=ed3 hst;exact⟨b,h1,λhb=>Be4 (h2 hb),h3⟩
theorem ne3{t:Nat}:∀(d u:Nat),u+d<=ops.size->(∀j,u<=j->j<u+d->R8 tr E.P ops j=0->oa0 ops j≠some t)->(U (u+d)).a[t]?=(U u).a[t]?
 |0,u,_,_=>rfl
 |d+1,u,hb,hn=>by
  have ih:=ne3 d u (by omega) λj h1 h2=>hn j h1 (by omega)
  rw[<- ih];show (U (u+d+1)).a[t]?=_;by_cases hk:R8 tr E.P ops (u+d)=0
  ·obtain⟨d',_,hd',_,hU⟩:=Zb0 hD hT (j:=u+d) (by omega) hk
   rw[hU];exact ed6 (hd' ▸ hn (u+d) (by omega) (by omega) hk)
  ·rw[ne0 hD hT (by omega) hk]
theorem Yc5{t:Nat}:∀(d u:Nat),u+d<=ops.size->(∀j,u<=j->j<u+d->R8 tr E.P ops j≠0->oa0 ops j≠some t)->(T (u+d)).a[t]?=(T u).a[t]?
 |0,u,_,_=>rfl
 |d+1,u,hb,hn=>by
  have ih:=Yc5 d u (by omega) λj h1 h2=>hn j h1 (by omega)
  rw[<- ih];show (T (u+d+1)).a[t]?=_;by_cases hk:R8 tr E.P ops (u+d)=0
  ·rw[ed7 hD hT (by omega) hk]
  ·obtain⟨b,h1,h2,h3⟩:=ne2 hD hT (j:=u+d) (by omega) hk
   have hne:=hn (u+d) (by omega) (by omega) hk
   cases b with
   |true =>
    obtain⟨x,H',_,h5⟩:=h2 rfl;rw[h5];exact ed6 hne
   |false=>rw[h3 rfl];exact ed6 hne
theorem Dc8:∀j,j<=ops.size->(U j).a.length=s.a.length/\(T j).a.length=s.a.length:=by
 have hu:∀j,j<=ops.size->(U j).a.length=s.a.length:=by
  intro j
  induction j with
  |zero=>intro _;rw[hT.u0]
  |succ j ih =>
   intro hj;by_cases hk:R8 tr E.P ops j=0
   ·obtain⟨d',_,hd',_,hU⟩:=Zb0 hD hT (j:=j) (by omega) hk
    rw[hU];simp only[ed5];exact ih (by omega)
   ·rw[ne0 hD hT (by omega) hk];exact ih (by omega)
 intro j
 induction j with
 |zero=>intro _;exact⟨hu 0 (by omega),by rw[hT.t0];exact hu _ (Qaf _)⟩
 |succ j ih =>
  intro hj;refine⟨hu _ hj,?_⟩;by_cases hk:R8 tr E.P ops j=0
  ·rw[ed7 hD hT (by omega) hk];exact (ih (by omega)).2
  ·obtain⟨b,h1,h2,h3⟩:=ne2 hD hT (j:=j) (by omega) hk
   cases b with
   |true =>
    obtain⟨x,H',_,h5⟩:=h2 rfl;rw[h5];simp only[ed5];exact (ih (by omega)).2
   |false=>rw[h3 rfl];simp only[ed5];exact (ih (by omega)).2
theorem tf9{j:Nat}(hj:j<ops.size)(hl:oc7 (ba4 tr E.P ops j)=false):Agr (T j).a (T ops.size).a (Xc4 (Yc4 ops j)++Yb6 (ba4 tr E.P ops j)):=λt ht=>by
 have:=Yc5 hD hT (t:=t) (ops.size-j) j (by omega) λi h1 h2 hk he=>by
  have hi:i<ops.size:=by omega
  rcases (hD.slots hi hj he).1 ht with hb|hb
  ·have:=jc2 hD hj hi hb
   omega
  ·rw[hl] at hb;cases hb.1
 grind
theorem Xf2{j d:Nat}(hj:j<ops.size)(hd:oa0 ops j=some d):(T ops.size).a[d]?=(T (j+1)).a[d]?:=by
 have:=Yc5 hD hT (t:=d) (ops.size-(j+1)) (j+1) (by omega) λi h1 h2 hk he=>by
  have hi:i<ops.size:=by omega
  rcases (hD.slots hi hj he).2 with h|h
  ·omega
  ·exact h hd
 grind
theorem ne4{j d v:Nat}(hj:j<ops.size)(h:R8 tr E.P ops j=0)(hd:oa0 ops j=some d)(hlt:d<s.a.length)(hv:v<=ops.size):(T v).a[d]?=some (Ad6 (ba4 tr E.P ops j) (U j).H.length):=by
 have hne:∀i,i<ops.size->i≠j->oa0 ops i≠some d:=λi hi hij he=>by
  rcases (hD.slots hi hj he).2 with h|h
  ·exact hij h
  ·exact h hd
 have h1:=Yc5 hD hT (t:=d) v 0 (by omega) λi _ h2 hk=>hne i (by omega) λe=>hk (e ▸ h)
 rw[Qar] at h1;rw[h1,hT.t0];have h2:=ne3 hD hT (t:=d) (ops.size-(j+1)) (j+1) (by omega) λi h3 h4 _=>hne i (by omega) (by omega)
 rw[show j+1+(ops.size-(j+1))=ops.size by omega] at h2
 rw[h2];obtain⟨d',_,hd',_,hU⟩:=Zb0 hD hT hj h
 have:d'=d:=Qag (hd'.symm.trans hd)
 subst this;rw[hU];exact Ed5 (by rw[(Dc8 hD hT j (by omega)).1];exact hlt)
theorem ne5:∀(d u:Nat),u+d<=ops.size->∃l,(U (u+d)).H=(U u).H++l
 |0,u,_=>⟨[],by simp⟩
 |d+1,u,hb=>by
  obtain⟨l,hl⟩:=ne5 d u (by omega)
  show ∃l,(U (u+d+1)).H=_;by_cases hk:R8 tr E.P ops (u+d)=0
  ·obtain⟨d',_,hd',_,hU⟩:=Zb0 hD hT (j:=u+d) (by omega) hk
   simp_all
  ·exact⟨l,by rw[ne0 hD hT (by omega) hk,hl]⟩
theorem rg0{i j:Nat}(hij:i<j)(hj:j<=ops.size)(hk:R8 tr E.P ops i=0):(U i).H.length<(U j).H.length:=by
 obtain⟨d',_,hd',_,hU⟩:=Zb0 hD hT (j:=i) (by omega) hk
 obtain⟨l,hl⟩:=ne5 hD hT (j-(i+1)) (i+1) (by omega)
 rw[show i+1+(j-(i+1))=j by omega] at hl
 rw[hl,hU];simp
theorem Qe7{j:Nat}(hj:j<=ops.size):s.H.length<=(U j).H.length/\∀i,i<s.H.length->(U j).H[i]?=s.H[i]?:=by
 obtain⟨l,hl⟩:=ne5 hD hT j 0 (by omega)
 rw[Qar,hT.u0] at hl
 grind
theorem Qe8{j:Nat}(hj:j<ops.size)(hk:R8 tr E.P ops j=0):(T 0).H[(U j).H.length]?=some (me8 (ba4 tr E.P ops j)):=by
 obtain⟨d',_,hd',_,hU⟩:=Zb0 hD hT hj hk;obtain⟨l,hl⟩:=ne5 hD hT (ops.size-(j+1)) (j+1) (by omega)
 rw[show j+1+(ops.size-(j+1))=ops.size by omega,hU] at hl
 rw[hT.t0,hl];simp
theorem uf0:∀(v:Nat),v<=ops.size->∀id,s.H.length<=id->id<(U v).H.length->∃j,j<v/\R8 tr E.P ops j=0/\id=(U j).H.length
 |0,_,id,h1,h2=>by rw[hT.u0] at h2;omega
 |v+1,hv,id,h1,h2=>by
  by_cases hk:R8 tr E.P ops v=0
  ·obtain⟨d',_,hd',_,hU⟩:=Zb0 hD hT (j:=v) (by omega) hk
   rw[hU] at h2
   simp at h2
   by_cases he:id<(U v).H.length
   ·obtain⟨j,h3,h4,h5⟩:=uf0 v (by omega) id h1 he
    grind
   grind
  ·rw[ne0 hD hT (by omega) hk] at h2
   obtain⟨j,h3,h4,h5⟩:=uf0 v (by omega) id h1 h2
   grind
end
section
variable{E:Env}{a a':List b7}
theorem ed8{o:PO}(h:Agr a a' (Yb6 o)):lb2 E a o=lb2 E a' o:=by
 cases o with
 |load ks n agg x=>simp only[lb2,Agr.arg (E:=E) (x:=x) h]
 |idxS es x i=>simp only[lb2,Agr.arg (E:=E) h.left]
 |slice es x lo hi=>simp only[lb2,Agr.arg (E:=E) h.left.left]
 |_=>rfl
theorem Vd5{o:PO}(h:Agr a a' (Yb6 o)):aa9 E a o=aa9 E a' o:=by
 cases o with
 |store n x y=>simp only[aa9,Agr.arg (E:=E) h.left]
 |append et es by' x y=>simp only[aa9,Agr.arg (E:=E) h.left]
 |copy es x y=>simp only[aa9,Agr.arg (E:=E) h.left]
 |apre es x y=>simp only[aa9,Agr.arg (E:=E) h.left]
 |clr es z x=>simp only[aa9,Agr.arg (E:=E) h]
 |call f xs=>simp only[aa9,Agr.args (E:=E) h]
 |calld x xs=>simp only[aa9,Agr.args (E:=E) h.right,Agr.arg (E:=E) h.left]
 |_=>rfl
theorem ed9{o:PO}(h:oc7 o=true):lb2 E a o=[]:=by cases o<;>first | rfl | cases h
theorem Uc3{o:PO}(h:oc7 o=true):aa9 E a o=[]:=by cases o<;>first | rfl | cases h
theorem Id7:∀{l:List (PO×PO)},Za8 E a l=true->∀{p:PO×PO},p∈l->∀id∈lb2 E a p.1,id∉aa9 E a p.2
 |[],_,p,hp=>by cases hp
 |q::l,h,p,hp=>by
  have e:Za8 E a (q::l)=Bool.rec false (Za8 E a l) (Qb7 (lb2 E a q.1) (aa9 E a q.2)):=rfl;rw[e] at h;cases hq:Qb7 (lb2 E a q.1) (aa9 E a q.2) with
  |false=>rw[hq] at h;cases h
  |true =>
   rw[hq] at h
   rcases Qbh.1 hp with rfl|hp
   ·exact nd9 hq
   ·exact Id7 h hp
theorem Yc6:∀{l:List PI},Yb4 a l=true->∀p∈l,∀d,p.dst=some d->d<a.length
 |[],_,p,hp=>by cases hp
 |q::l,h,p,hp=>λd hd=>by
  have e:Yb4 a (q::l)=(match q.dst with
   |some d=>match nth a d with
    |some _=>Yb4 a l
    |none=>false
   |none=>false):=rfl
  rw[e] at h;cases hq:q.dst with
  |none=>simp[hq] at h
  |some d' =>
  simp only[hq,F7] at h;cases hn:a[d']? with
  |none=>simp[hn] at h
  |some x =>
  simp only[hn] at h
  rcases Qbh.1 hp with rfl|hp
  ·have:d'=d:=Qag (hq.symm.trans hd)
   subst this;exact (Qab.1 hn).1
  ·exact Yc6 h p hp d hd
theorem Id8{tr:Nat}{P:Program}{ops:Array Oper}{j:Nat}:R8 tr P ops j=0↔Bb4 (Sa0 ops j)=true:=by
 refine⟨Id5,λh=>?_⟩
 unfold R8 Tc7;rw[if_pos h]
end
section
variable{tr:Nat}{E:Env}{ops:Array Oper}{M:List Nat}{ks:List (Nat×PI)}{s:St}{U T:Nat->St}
variable(hD:DC tr E.P ops M ks)(hT:Id6 E ops ks s U T)(hin:∀j,j<ops.size->R8 tr E.P ops j=0->∀d,oa0 ops j=some d->d<s.a.length)
include hD hT
theorem uf1{j:Nat}(hj:j<ops.size):lb2 E (T j).a (ba4 tr E.P ops j)=lb2 E (T ops.size).a (ba4 tr E.P ops j):=by
 cases hl:oc7 (ba4 tr E.P ops j) with
 |true=>rw[ed9 hl,ed9 hl]
 |false=>exact ed8 (tf9 hD hT hj hl).right
theorem kf8{j:Nat}(hj:j<ops.size):aa9 E (T j).a (ba4 tr E.P ops j)=aa9 E (T ops.size).a (ba4 tr E.P ops j):=by
 cases hl:oc7 (ba4 tr E.P ops j) with
 |true=>rw[Uc3 hl,Uc3 hl]
 |false=>exact Vd5 (tf9 hD hT hj hl).right
theorem Ed6{j:Nat}(hj:j<ops.size)(h:R8 tr E.P ops j=1):∃b x,Ad5 E (T j).a (Yc4 ops j)=some b/\T (j+1)=⟨putA (T j).a (oa0 ops j) x,(T j).H⟩ /\
  (b=true->(evalOp E (T j).a (T j).H (ba4 tr E.P ops j)).run=some (x,(T j).H))/\(b=false->x=.v (.tuple #[])):=by
 obtain⟨b,h1,h2,h3⟩:=ne2 hD hT hj (by omega)
 have hh:(Sc2 tr E.P ops M j).hide=[]:=by simp[Sc2,h]
 cases b with
 |true =>
  obtain⟨x,H',h4,h5⟩:=h2 rfl;rw[hh] at h4 h5;have h4':(evalOp E (T j).a (T j).H (ba4 tr E.P ops j)).run=some (x,H'):=h4;have he:=(dd9 (Be6 h) h4').1;subst he;exact⟨true,x,h1,h5,λ_=>h4',λh=>by cases h⟩
 |false=>exact⟨false,_,h1,h3 rfl,λh=>(by cases h),λ_=>rfl⟩
theorem Qe9:∀(d u:Nat),u+d<=ops.size->(∀j,u<=j->j<u+d->R8 tr E.P ops j≠2)->(T (u+d)).H=(T u).H
 |0,u,_,_=>rfl
 |d+1,u,hb,hn=>by
  have ih:=Qe9 d u (by omega) λj h1 h2=>hn j h1 (by omega)
  rw[<- ih];show (T (u+d+1)).H=_
  rcases jc1 (tr:=tr) (P:=E.P) (ops:=ops) (u+d) with hk|hk|hk
  ·rw[ed7 hD hT (by omega) hk]
  ·obtain⟨b,x,_,h2,_⟩:=Ed6 hD hT (j:=u+d) (by omega) hk
   rw[h2]
  ·exact absurd hk (hn (u+d) (by omega) (by omega))
include hin
theorem Lf3{j:Nat}(hj:j<ops.size)(h:R8 tr E.P ops j=2)(id:Nat):id∈Hb2 (T j).a (Sc2 tr E.P ops M j).hide↔∃b,b<ops.size/\R8 tr E.P ops b=0/\G9 M b j=false/\id=(U b).H.length:=by
 have hh:(Sc2 tr E.P ops M j).hide=nd4 ops M j:=by simp[Sc2,h]
 rw[hh];unfold Hb2;rw[s8,Qbq];constructor
 ·rintro⟨d,hd,he⟩;unfold nd4 at hd;rw[Qck] at hd;obtain⟨b,hb,hb2⟩:=hd;have hb1:=Qca.1 hb;simp only[xa7 hb1] at hb2
  split at hb2
  ·rename_i hc;rw[Qas,Qcb] at hc;have hk:R8 tr E.P ops b=0:=Id8.2 hc.1;have ha:=ne4 hD hT hb1 hk hb2 (hin b hb1 hk d hb2) (v:=j) (by omega)
   rw[F7,ha] at he;exact⟨b,hb1,hk,hc.2,by rw[<- he];cases ba4 tr E.P ops b<;>rfl⟩
  ·cases hb2
 ·rintro⟨b,hb1,hk,hc,rfl⟩;obtain⟨d,hd⟩:=hD.allocDst hb1 hk;refine⟨d,?_,?_⟩
  ·unfold nd4;rw[Qck];refine⟨b,Qca.2 hb1,?_⟩;have h2:(Bb4 (Sa0 ops b)&&!G9 M b j)=true:=by rw[Id8.1 hk,hc];rfl
   simp only[xa7 hb1,h2,if_true];exact hd
  ·rw[F7,ne4 hD hT hb1 hk hd (hin b hb1 hk d hd) (v:=j) (by omega)]
   cases ba4 tr E.P ops b<;>rfl
theorem ne6{j:Nat}(hj:j<ops.size)(h:R8 tr E.P ops j=2):∃b x,Ad5 E (T j).a (Yc4 ops j)=some b/\(T (j+1)).a=putA (T j).a (oa0 ops j) x /\
  (b=true->∃hid H',(∀id,id∈hid↔∃b,b<ops.size/\R8 tr E.P ops b=0/\G9 M b j=false/\id=(U b).H.length) /\
   (evalOp E (T j).a (qa3 (T j).H (·∈hid)) (ba4 tr E.P ops j)).run=some (x,H')/\(T (j+1)).H=Hb3 (T j).H H' hid) /\
  (b=false->x=.v (.tuple #[])/\(T (j+1)).H=(T j).H):=by
 obtain⟨b,h1,h2,h3⟩:=ne2 hD hT hj (by omega)
 cases b with
 |true =>
  obtain⟨x,H',h4,h5⟩:=h2 rfl;rw[kf6] at h4;exact⟨true,x,h1,by rw[h5],λ_=>⟨_,H',Lf3 hD hT hin hj h,h4,by rw[h5]⟩,λh=>by cases h⟩
 |false=>exact⟨false,_,h1,by rw[h3 rfl],λh=>(by cases h),λ_=>⟨rfl,by rw[h3 rfl]⟩⟩
omit hD hT hin in
theorem ee0{H:List c7}{l:List Nat}(hb:∀id∈l,id<H.length):P3 (·∈l) (qa3 H (·∈l)) (qa3 H (·∈l)) (qa3 H (·∈l)) (qa3 H (·∈l)) :=
 ⟨rfl,λ_ _=>rfl,λid b hD hb=>by
  rw[Ea9 hD] at hb;simp only[Qbm] at hb;obtain⟨c,_,rfl⟩:=hb
  rfl,λ_ _=>rfl,λ_ _=>rfl,λid h=>by rw[Pb8];exact hb id h⟩
theorem ne7{b:Nat}(hb:b<ops.size)(hk:R8 tr E.P ops b=0):∀(v:Nat),v<=ops.size->(∀h,h<v->R8 tr E.P ops h=2->G9 M b h=false)->(T v).H[(U b).H.length]?=(T 0).H[(U b).H.length]?
 |0,_,_=>rfl
 |v+1,hv,hn=>by
  have ih:=ne7 hb hk v (by omega) λh h1=>hn h (by omega)
  rw[<- ih]
  rcases jc1 (tr:=tr) (P:=E.P) (ops:=ops) v with h0|h0|h0
  ·rw[ed7 hD hT (by omega) h0]
  ·obtain⟨b,x,_,h2,_⟩:=Ed6 hD hT (j:=v) (by omega) h0
   rw[h2]
  ·obtain⟨bb,x,h1,_,h3,h4⟩:=ne6 hD hT hin (j:=v) (by omega) h0
   cases bb with
   |false=>rw[(h4 rfl).2]
   |true =>
    obtain⟨hid,H',h5,h6,h7⟩:=h3 rfl;rw[h7]
    -- every Hb2 block stands in the heap
    have hall:∀id∈hid,id<(T v).H.length:=λid hid'=>by
     obtain⟨b',k1,k2,k3,rfl⟩:=(h5 id).1 hid'
     have:=ne7 k1 k2 v (by omega) λh h1 h2=>by
      cases hc:G9 M b' h with
      |false=>rfl
      |true =>
       rw[(hD.chain h1 (by omega) h2 h0).2 b' hc] at k3
       cases k3
     have hz:=Qe8 hD hT k1 k2;rw[hz] at this;exact (Qab.1 this).1
    have hm:(U b).H.length∈hid:=(h5 _).2 ⟨b,hb,hk,hn v (by omega) h0,rfl⟩
    obtain⟨H2',_,hM⟩:=(ee0 hall).evalOp (E:=E) (a:=(T v).a) (ed4 h0) h6;refine od3 hm (hall _ hm) ?_;exact hM.bound _ hm
theorem uf2{j:Nat}(hj:j<ops.size)(h0:R8 tr E.P ops j=2){b:Nat}(k1:b<ops.size)(k2:R8 tr E.P ops b=0)(k3:G9 M b j=false):(U b).H.length<(T j).H.length:=by
 have:=ne7 hD hT hin k1 k2 j (by omega) λh h1 h2=>by
  cases hc:G9 M b h with
  |false=>rfl
  |true =>
   rw[(hD.chain h1 hj h2 h0).2 b hc] at k3;cases k3
 have hz:=Qe8 hD hT k1 k2;rw[hz] at this;exact (Qab.1 this).1
theorem Lf4{j:Nat}(hj:j<ops.size){id:Nat}(hn:R8 tr E.P ops j=2->id∉aa9 E (T ops.size).a (ba4 tr E.P ops j)):Z6 (T j).H (T (j+1)).H id:=by
 rcases jc1 (tr:=tr) (P:=E.P) (ops:=ops) j with h0|h0|h0
 ·rw[ed7 hD hT hj h0];exact .refl _ _
 ·obtain⟨b,x,_,h2,_⟩:=Ed6 hD hT hj h0;rw[h2];exact .refl _ _
 ·obtain⟨bb,x,h1,_,h3,h4⟩:=ne6 hD hT hin hj h0;cases bb with
  |false=>rw[(h4 rfl).2];exact .refl _ _
  |true =>
   obtain⟨hid,H',h5,h6,h7⟩:=h3 rfl;rw[h7];have hall:∀id∈hid,id<(T j).H.length:=λid hid'=>by
    obtain⟨b',k1,k2,k3,rfl⟩:=(h5 id).1 hid';exact uf2 hD hT hin hj h0 k1 k2 k3
   obtain⟨H2',_,hM⟩:=(ee0 hall).evalOp (E:=E) (a:=(T j).a) (ed4 h0) h6;intro b hb;by_cases hm:id∈hid
   ·refine⟨b,?_,.refl b⟩;rw[od3 hm (hall _ hm) (hM.bound _ hm)];exact hb
   ·rw[Id3 hm];have hslots:aa9 E (T j).a (ba4 tr E.P ops j)=aa9 E (T ops.size).a (ba4 tr E.P ops j):=kf8 hD hT hj;exact me6 (ed4 h0) h6 (by rw[hslots];exact hn h0) b (by rw[ea4 (D:=(·∈hid)) hm];exact hb)
theorem Re0{id:Nat}:∀(d u:Nat),u+d<=ops.size->(∀j,u<=j->j<u+d->R8 tr E.P ops j=2->id∉aa9 E (T ops.size).a (ba4 tr E.P ops j))->Z6 (T u).H (T (u+d)).H id
 |0,u,_,_=>.refl _ _
 |d+1,u,hb,hn =>
  (Re0 d u (by omega) λj h1 h2=>hn j h1 (by omega)).trans (Lf4 hD hT hin (j:=u+d) (by omega) (hn (u+d) (by omega) (by omega)))
end
section
variable{W:Nat->Prop}{ρ ρ':Rho}{H H':List c7}{F F':Fz}{w w':World}
def ee1(ρ:Rho)(H:List c7)(ρ':Rho)(H':List c7):Prop:=∀(id:Nat) b,H[id]?=some b->b.dead=false->∃b',H'[id]?=some b'/\b'.dead=false/\b.g<=b'.g/\(b'.g=b.g->ρ' id=ρ id/\b'.es=b.es/\b.elems.length<=b'.elems.length)
section
variable(hk:ee1 ρ H ρ' H')(hm:∀b o,F b o->F' b o)(hc:∀b o,F b o->w'.cell? ⟨b,o,none⟩=w.cell? ⟨b,o,none⟩)
include hk hm hc
theorem ea9.carry{x:b7}{x':Value}(h:ea9 ρ H F w x x'):ea9 ρ' H' F' w' x x':=by
 cases h with
 |mem h=>exact .mem (h.adv hm hc)
 |v=>exact .v _
 |ptr id i c g a b hb hd hg h =>
  obtain⟨b',hb',hd',hg',e⟩:=hk id b hb hd;refine .ptr id i c g a b' hb' hd' (Qai hg hg') λhge=>?_
  grind
 |sl id off n g a cap b hb hd hg hn hs hm h =>
  obtain⟨b',hb',hd',hg',e⟩:=hk id b hb hd;refine .sl id off n g a cap b' hb' hd' (Qai hg hg') hn hs hm λhge=>?_
  grind
 |tptr cs a vs hs hF hw hr=>exact .tptr cs a vs hs (λc hlt=>hm _ _ (hF c hlt)) (λc hlt=>(hc _ _ (hF c hlt)).trans (hw c hlt)) (λc hlt=>(hr c hlt).adv hm hc)
 |unk x'=>exact .unk x'
theorem ra2.carry{x:b7}{x':Value}(h:ra2 ρ H F w x x'):ra2 ρ' H' F' w' x x':=by
 cases h with
 |cell h=>exact .cell (h.carry hk hm hc)
 |agg cs vs hl h=>exact .agg cs vs hl λi x x' hx hx'=>(h i x x' hx hx').carry hk hm hc
 |fn f caps vs hl h=>exact .fn f caps vs hl λi x x' hx hx'=>(h i x x' hx hx').carry hk hm hc
theorem K8.carry{x:b7}{x':Value}(h:K8 ρ H F w x x'):K8 ρ' H' F' w' x x':=by
 cases h with
 |val h=>exact .val (h.carry hk hm hc)
 |tup xs vs hl h=>exact .tup xs vs hl λi x x' hx hx'=>(h i x x' hx hx').carry hk hm hc
theorem Ia4.carry{a:List b7}{vs:Array Value}(h:Ia4 ρ H F w a vs):Ia4 ρ' H' F' w' a vs :=
 ⟨h.1,λi x x' hx hx'=>(h.2 i x x' hx hx').carry hk hm hc⟩
end
end
section
variable{W:Nat->Prop}{ρ0:Rho}{H0:List c7}{F0:Fz}{w0 w:World}
variable{tr:Nat}{E:Env}{ops:Array Oper}{M:List Nat}{ks:List (Nat×PI)}{s:St}{U T:Nat->St}
def J1(listed:Array Bool)(j:Nat):Prop:=listed.getD j true=true
def W4(tr:Nat)(P:Program)(ops:Array Oper)(U:Nat->St)(listed:Array Bool)(id:Nat):Prop:=∃b,b<ops.size/\R8 tr P ops b=0/\¬ J1 listed b/\id=(U b).H.length
def ea5(ops:Array Oper)(listed:Array Bool)(t:Nat):Prop:=∃i,i<ops.size/\oa0 ops i=some t/\¬ J1 listed i
theorem X7{listed:Array Bool}{i j:Nat}(hi:i<listed.size):J1 (listed.setIfInBounds i true) j↔J1 listed j\/j=i:=by
 unfold J1;by_cases e:i=j
 ·simp_all
 ·have:j≠i:=λh=>e h.symm
  simp_all
theorem pc1{listed:Array Bool}{i:Nat}(h:i∈Region.ready .any ops listed):i<ops.size/\¬ J1 listed i/\(listed.size=ops.size->∀e∈L3 (Sa0 ops i),e<ops.size->J1 listed e):=by
 unfold Region.ready at h;rw[List.mem_filter] at h;obtain⟨h1,h2⟩:=h;have hi:=Qca.1 h1;rw[xa7 hi] at h2;simp only[Option.map_some,Option.getD_some,Qas,Qcb] at h2;refine⟨hi,λh=>?_,λhsz e he hlt=>?_⟩
 ·unfold J1 at h;rw[h] at h2;cases h2.1
 ·obtain⟨ed,h3,h4,h5⟩:=lb6.1 he;have h6:(Sa0 ops i).after.all (λe=>!Region.binds .any e||listed.getD e.on false)=true:=h2.2
  rw[Qcf] at h6;have h7:=h6 ed h3;rw[h4,h5] at h7;simp only[Bool.not_true,Bool.false_or] at h7;unfold J1
  simp_all
variable(hD:DC tr E.P ops M ks)(hT:Id6 E ops ks s U T)(hin:∀j,j<ops.size->R8 tr E.P ops j=0->∀d,oa0 ops j=some d->d<s.a.length)
include hD
theorem kf9{listed:Array Bool}(hsz:listed.size=ops.size){i:Nat}(hi:i<ops.size){x:b7}(hx:∀d,oa0 ops i=some d->d<(T ops.size).a.length->(T ops.size).a[d]?=some x) :
  vb8 (T ops.size).a s.a (ea5 ops (listed.setIfInBounds i true))=putA (vb8 (T ops.size).a s.a (ea5 ops listed)) (oa0 ops i) x:=by
 refine Qce λt=>?_
 have hopen:∀t,oa0 ops i≠some t->(ea5 ops (listed.setIfInBounds i true) t↔ea5 ops listed t):=λt hne=>by
  constructor
  ·rintro⟨j,h1,h2,h3⟩;exact⟨j,h1,h2,λh=>h3 ((X7 (hsz ▸ hi)).2 (.inl h))⟩
  ·rintro⟨j,h1,h2,h3⟩;refine⟨j,h1,h2,λh=>?_⟩
   rcases (X7 (hsz ▸ hi)).1 h with h|h
   ·exact h3 h
   ·subst h;exact hne h2
 by_cases hd:oa0 ops i=some t
 ·have hno : ¬ ea5 ops (listed.setIfInBounds i true) t := by
   rintro⟨j,h1,h2,h3⟩
   rcases (hD.slots hi h1 hd).2 with h|h
   ·exact h3 ((X7 (hsz ▸ hi)).2 (.inr h.symm))
   ·exact h h2
  rw[xb8 hno,hd]
  rcases Qaq t (T ops.size).a.length with hlt|hge
  ·rw[Ed5 (by rw[xb7];exact hlt)]
   exact hx t hd hlt
  ·rw[Qat hge,Qat (by rw[ed5,xb7];exact hge)]
 ·rw[ed6 hd];by_cases ho:ea5 ops listed t
  ·rcases Qaq t (T ops.size).a.length with hlt|hge
   ·rw[ed2 ho hlt,ed2 ((hopen t hd).2 ho) hlt]
   ·rw[Qat (by rw[xb7];exact hge),Qat (by rw[xb7];exact hge)]
  ·rw[xb8 ho,xb8 λh=>ho ((hopen t hd).1 h)]
include hT
end
section
variable{W:Nat->Prop}{ρ0:Rho}{H0:List c7}{F0:Fz}{w0 w:World}
variable{tr:Nat}{E:Env}{ops:Array Oper}{M:List Nat}{ks:List (Nat×PI)}{s:St}{U T:Nat->St}
variable(hD:DC tr E.P ops M ks)(hT:Id6 E ops ks s U T)(hin:∀j,j<ops.size->R8 tr E.P ops j=0->∀d,oa0 ops j=some d->d<s.a.length)
variable(hpairs:Za8 E (T ops.size).a (Qa9 ops.size M ks)=true)
variable(hG0:GOk E F0 w0)(hcalls:∀f,l8 E.P E.G f (E.call f))
theorem ee2{listed:Array Bool}(hsz:listed.size=ops.size){i:Nat}(hi:i<ops.size)(hk:R8 tr E.P ops i≠0):W4 tr E.P ops U (listed.setIfInBounds i true)=W4 tr E.P ops U listed:=by
 funext id;refine propext ⟨λ⟨b,h1,h2,h3,h4⟩=>⟨b,h1,h2,λh=>h3 ((X7 (hsz ▸ hi)).2 (.inl h)),h4⟩,λ⟨b,h1,h2,h3,h4⟩=>⟨b,h1,h2,λh=>?_,h4⟩⟩
 rcases (X7 (hsz ▸ hi)).1 h with h|h
 ·exact h3 h
 ·subst h;exact hk h2
include hD
include hT hin hpairs hG0 hcalls
end
section
variable{W:Nat->Prop}{ρ0:Rho}{H0:List c7}{F0:Fz}{w0 w:World}
variable{tr:Nat}{E:Env}{ops:Array Oper}{M:List Nat}{ks:List (Nat×PI)}{s:St}{U T:Nat->St}
variable(hD:DC tr E.P ops M ks)(hT:Id6 E ops ks s U T)(hin:∀j,j<ops.size->R8 tr E.P ops j=0->∀d,oa0 ops j=some d->d<s.a.length)(hlen:H0.length<=s.H.length)
include hD hT hin hlen
omit hT hin hlen in
theorem ee3{listed:Array Bool}(hsz:listed.size=ops.size)(h:Region.ready .any ops listed=[]):∀j,j<ops.size->J1 listed j:=by
 intro j
 induction j using Nat.strongRecOn with
 |_ j ih =>
  intro hj;apply Classical.byContradiction;intro hn;have hmem:j∈Region.ready .any ops listed:=by
   unfold Region.ready;rw[List.mem_filter];refine⟨Qca.2 hj,?_⟩;rw[xa7 hj];simp only[Option.map_some,Option.getD_some,Qas,Qcb];refine⟨by unfold J1 at hn;simpa using hn,?_⟩
   rw[Qcf];intro e he;cases hb:Region.binds .any e with
   |false=>rfl
   |true =>
    have hd:e.on∈L3 (Sa0 ops j):=lb6.2 ⟨e,he,hb,rfl⟩;have hlt:=Pc2 hD.rows (xa7 hj) hd
    have:=ih e.on hlt (by omega)
    unfold J1 at this
    grind
  rw[h] at hmem;cases hmem
def P4(listed:Array Bool):Nat:=(listed.toList.filter λb=>!b).length
omit hD hT hin hlen in
theorem eb7:∀(l:List Bool) (i:Nat),l[i]?=some false->((l.set i true).filter λb=>!b).length+1=(l.filter λb=>!b).length
 |[],i,h=>by simp at h
 |b::l,0,h=>by
  simp at h
  subst h;simp
 |b::l,i+1,h=>by
  have ih:=eb7 l i (by simpa using h)
  grind
omit hD hT hin hlen in
theorem pb5{listed:Array Bool}(h:P4 listed=0)(j:Nat):J1 listed j:=by
 unfold P4 at h;unfold J1;rw[List.length_eq_zero_iff,List.filter_eq_nil_iff] at h
 rcases Qaq j listed.size with hj|hj
 ·have:=h listed[j] (by simp)
  simp_all
 simp_all
variable(hpairs:Za8 E (T ops.size).a (Qa9 ops.size M ks)=true)(hG0:GOk E F0 w0)(hcalls:∀f,l8 E.P E.G f (E.call f))
include hpairs hG0 hcalls
end
end Go.Ev
