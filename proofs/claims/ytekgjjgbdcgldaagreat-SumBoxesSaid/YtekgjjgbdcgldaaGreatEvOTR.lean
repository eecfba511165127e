/- Own work. -/
import Derived.Test.YtekgjjgbdcgldaaGreatEvOS6
set_option linter.all false
def Qla:=@List.mem_filter
def Qlb:=@List.all_eq_true
def Qlc:=@List.mem_cons
def Qld:=@Classical.byContradiction
def Qle:=@List.mem_map
def Qlf:=@Nat.lt_irrefl
def Qlg:=@Int.mul_eq_zero
def Qlh:=@Int.zero_mul
def Qli:=@Int.lt_or_gt_of_ne
def Qlj:=@Int.add_zero
def Qlk:=@List.mem_cons_self
def Qll:=@Bool.and_eq_true
def Qlm:=@Int.mul_nonneg
def Qln:=@List.countP_eq_length_filter
def Qlo:=@List.length_append
def Qlp:=@Int.mul_neg_of_neg_of_pos
def Qlq:=@Nat.zero_le
def Qlr:=@Int.zero_add
def Qls:=@List.length_map
def Qlt:=@Int.mul_le_mul_of_nonneg_left
def Qlu:=@Int.mul_comm
def Qlv:=@List.take_length
def Qlw:=@List.mem_cons_of_mem
def Qlx:=@Int.mul_pos_of_neg_of_neg
def Qly:=@Int.mul_nonpos_of_nonneg_of_nonpos
def Qlz:=@List.not_mem_nil
def Qlaa:=@List.length_eq_countP_add_countP
def Qlab:=@List.mem_append_right
def Qlac:=@Int.sub_self
def Qlad:=@List.mem_append_left
def Qlae:=@List.drop_zero
def Qlaf:=@Int.le_refl
def Qlag:=@List.mem_singleton
def Qlah:=@List.foldl_append
def Qlai:=@Int.mul_neg_of_pos_of_neg
def Qlaj:=@Int.eq_of_mul_eq_mul_left
def Qlak:=@Array.getElem?_eq_getElem
def Qlal:=@Int.mul_zero
def Qlam:=@List.mem_flatMap
def Qlan:=@List.getElem?_eq_getElem
def Qlao:=@List.length_filter_le
def Qlap:=@Bool.true_and
def Qlaq:=@Go.Ev.Ce.V3.ext'
namespace Go.Ev.Ce
open Go Go.Ev Go.Ev.L Go.Proofs
noncomputable def Kd3(v:V3):List b7:=[i v.x,i v.y,i v.z,b true]
noncomputable def Bb0(l:List V3):List (List b7):=l.map Kd3
@[reducible] noncomputable def flV:List (Nat×CK):=[(0,.int .i64),(1,.int .i64),(2,.int .i64)]
def Kd4(l:List V3)(x:V3):Bool:=l.any λq=>eqV q x
theorem Yd9(l:List V3)(x:V3):Kd4 l x=true↔x∈l:=by
 unfold Kd4;rw[List.any_eq_true];exact⟨λ⟨q,hq,e⟩=>(Dc0 q x).1 e ▸ hq,λh=>⟨x,h,(Dc0 x x).2 rfl⟩⟩
theorem Ad0(x q:V3):Bb7 flV [i x.x,i x.y,i x.z] (Kd3 q)=eqV q x:=by
 show Bool.and (decide (x.x=q.x)) (Bool.and (decide (x.y=q.y)) (Bool.and (decide (x.z=q.z)) true))=_;unfold eqV;have h:∀a c:Int,decide (a=c)=(c==a):=λa c=>by rw[Bool.eq_iff_iff,decide_eq_true_eq,beq_iff_eq];exact eq_comm
 rw[h,h,h]
theorem Ue8(x:V3):∀l,Da3 3 [(0,.int .i64),(1,.int .i64),(2,.int .i64)] [i x.x,i x.y,i x.z] (Bb0 l)=Kd4 l x
 |[]=>rfl
 |q::l=>by
  have ih:=Ue8 x l;unfold Da3 at ih ⊢;show Option.rec (motive:=λ_=>Bool) false (λr=>toB (hdA (i9 r 3))) (Bool.rec (motive:=λ_=>Option (List b7)) (lc4 flV [i x.x,i x.y,i x.z] (Bb0 l)) (some (Kd3 q)) (Bb7 flV [i x.x,i x.y,i x.z] (Kd3 q)))=Kd4 (q::l) x
  rw[Ad0];unfold Kd4 at ih ⊢;rw[List.any_cons];cases eqV q x with
  |true=>rfl
  |false=>exact ih
theorem Cf7(x:V3):∀l,Kd4 l x=false->V5 [(0,.int .i64),(1,.int .i64),(2,.int .i64)] [i x.x,i x.y,i x.z] [i x.x,i x.y,i x.z,b true] (Bb0 l)=Bb0 (l++[x])
 |[],_=>rfl
 |q::l,h=>by
  unfold Kd4 at h;rw[List.any_cons,Bool.or_eq_false_iff] at h;show Bool.rec (motive:=λ_=>List (List b7)) (Kd3 q::V5 flV [i x.x,i x.y,i x.z] (Kd3 x) (Bb0 l)) (Kd3 x::Bb0 l) (Bb7 flV [i x.x,i x.y,i x.z] (Kd3 q))=_
  rw[Ad0,h.1,show V5 flV [i x.x,i x.y,i x.z] (Kd3 x) (Bb0 l)=_ from Cf7 x l h.2]
  rfl
def uc1(s:List V3)(v:V3):List V3:=if Kd4 s v then s else s++[v]
noncomputable def pc9(x:V3)(s:List V3)(y:V3):List V3:=uc1 s (j5 x y)
noncomputable def eb5(l:List V3)(s:List V3)(x:V3):List V3:=l.foldl (pc9 x) s
noncomputable def W9(a l:List V3):List V3:=a.foldl (eb5 l) []
theorem Kd5(s:List V3)(v:V3):uc1 s v≠[]:=by
 unfold uc1;split
 ·rename_i h;intro e;rw[e] at h;cases h
 ·simp
theorem Zd0(s:List V3)(v:V3):(uc1 s v).length<=s.length+1:=by
 unfold uc1;split
 ·omega
 ·simp
theorem Ue9(s:List V3)(v w:V3):w∈uc1 s v↔w∈s\/w=v:=by
 unfold uc1;split
 ·rename_i h;rw[Yd9] at h;exact⟨.inl,λh'=>h'.elim id λe=>e ▸ h⟩
 ·rw[List.mem_append,Qlag]
theorem ke2{s:List V3}{v:V3}(h:s.Nodup):(uc1 s v).Nodup:=by
 unfold uc1;split
 ·exact h
 ·rename_i hn;rw[Yd9] at hn;rw[List.nodup_append];exact⟨h,by simp,λa ha b hb=>by rw[Qlag.1 hb];intro e;exact hn (e ▸ ha)⟩
theorem Zd1(x w:V3):∀(l s:List V3),w∈eb5 l s x↔w∈s\/∃y∈l,w=j5 x y
 |[],s=>by simp[eb5]
 |y::l,s=>by
  have ih:=Zd1 x w l (pc9 x s y);show w∈eb5 l (pc9 x s y) x↔_;rw[ih];unfold pc9;rw[Ue9];simp only[Qlc,exists_eq_or_imp,or_assoc]
theorem Ad1(w:V3)(l:List V3):∀(a s:List V3),w∈a.foldl (eb5 l) s↔w∈s\/∃x∈a,∃y∈l,w=j5 x y
 |[],s=>by simp
 |x::a,s=>by
  rw[List.foldl_cons,Ad1 w l a (eb5 l s x),Zd1];simp only[Qlc,exists_eq_or_imp,or_assoc]
theorem Zd2(a l:List V3)(w:V3):w∈W9 a l↔∃x∈a,∃y∈l,w=j5 x y:=by
 unfold W9;rw[Ad1];simp
theorem md9(x:V3):∀(l s:List V3),s.Nodup->(eb5 l s x).Nodup
 |[],s,h=>h
 |y::l,s,h=>md9 x l (pc9 x s y) (ke2 h)
theorem ke3(a l:List V3):(W9 a l).Nodup:=by
 have h:∀(a s:List V3),s.Nodup->(a.foldl (eb5 l) s).Nodup:=λa=>by
  induction a with
  |nil=>exact λs h=>h
  |cons x a ih=>exact λs h=>ih _ (md9 x l s h)
 exact h a [] List.nodup_nil
theorem Zd3(x:V3):∀(l s:List V3),(eb5 l s x).length<=s.length+l.length
 |[],s=>by simp[eb5]
 |y::l,s=>by
  have h1:=Zd3 x l (pc9 x s y);have h2:=Zd0 s (j5 x y);unfold pc9 at h1;show (eb5 l (uc1 s (j5 x y)) x).length<=_;simp only[List.length_cons];omega
theorem Mc6(l:List V3):∀(a s:List V3),(a.foldl (eb5 l) s).length<=s.length+a.length*l.length
 |[],s=>by simp
 |x::a,s=>by
  have h1:=Mc6 l a (eb5 l s x);have h2:=Zd3 x l s;rw[List.foldl_cons,List.length_cons,Nat.succ_mul];omega
theorem Ve0(a l:List V3):(W9 a l).length<=a.length*l.length:=by
 have:=Mc6 l a []
 simp only[List.length_nil,Nat.zero_add] at this;exact this
noncomputable def Xb5(x:V3)(j:Nat)(o:List V3):o5:=match o with
 |[]=>⟨0,(j:Int),0,[],[],0,0,0⟩
 |q::o=>⟨1,(j:Int),(q::o).length,bL tV (q::o),Bb0 (q::o),x.x,x.y,x.z⟩
theorem se0{x:V3}{j:Nat}{o:List V3}(h:o≠[]):Xb5 x j o=⟨1,(j:Int),o.length,bL tV o,Bb0 o,x.x,x.y,x.z⟩:=by
 cases o with
 |nil=>exact absurd rfl h
 |cons q o=>rfl
theorem Of0(O:List V3)(v:V3):app (bL tV O) [[i v.x,i v.y,i v.z]]=bL tV (O++[v]):=Va9 tV O [v]
theorem Ve1 (x : V3) (l : List V3) (P : D9) (h1 : P.uc3 = l) (h2 : P.le6 = (l.length : Int)) (hl : l.length ≤ 48) (o : List V3) (ho : o.length ≤ 1000000) (hP : o = [] → P.B7 = x.x ∧ P.B9 = x.y ∧ P.C0 = x.z) :
  ∃t s,lp (L3 P) (Xb5 x 0 o)=(t,s)/\(t=phV (eb5 l o x)+1/\∃j,s=Xb5 x j (eb5 l o x)):=by
 refine ea3 (step:=L3 P) (mk:=Xb5 x) l.length (λj s=>j<=l.length/\s=(l.take j).foldl (pc9 x) o/\s.length<=o.length+j/\(s=[]->P.B7=x.x/\P.B9=x.y/\P.C0=x.z)) (λt s=>t=phV (eb5 l o x)+1/\∃j,s=Xb5 x j (eb5 l o x)) (by omega)
  (λj s hj hi=>?_) (λj s hj hi=>?_) 0 o ⟨Qlq _,by simp,by omega,hP⟩
 ·obtain⟨_,hi,hlen,hz⟩:=hi;have hn:=o8 hj (show l.length<=4611686018427387904 by omega)
  have hb:inB (j:Int) l.length=true:=f8 hj;have hT:(l.take (j+1)).foldl (pc9 x) o=uc1 s (j5 x (gL tV l j)):=by
   rw[tb3 tV hj,Qlah,<- hi];rfl
  have hnext:∀{s':o5},s'=Xb5 x (j+1) (uc1 s (j5 x (gL tV l j)))->Nx (.next s') (λt=>t=phV (eb5 l o x)+1/\∃j',Xb5 x j s=Xb5 x j' (eb5 l o x)) (λs'=>∃o',s'=Xb5 x (j+1) o'/\(j+1<=l.length/\o'=(l.take (j+1)).foldl (pc9 x) o/\o'.length<=o.length+(j+1)/\(o'=[]->P.B7=x.x/\P.B9=x.y/\P.C0=x.z))):=λ{s'} hs=>.nx ⟨_,hs,by omega,hT.symm,by have:=Zd0 s (j5 x (gL tV l j));omega,λh=>absurd h (Kd5 _ _)⟩
  clear hi
  cases s with
  |nil =>
   obtain⟨z1,z2,z3⟩:=hz rfl;have hu:∀v:V3,V5 [(0,.int .i64),(1,.int .i64),(2,.int .i64)] [i v.x,i v.y,i v.z] [i v.x,i v.y,i v.z,b true] []=Bb0 [v]:=λv=>Cf7 v [] rfl
   have hv:∀v:V3,Da3 3 [(0,.int .i64),(1,.int .i64),(2,.int .i64)] [i v.x,i v.y,i v.z] []=false:=λv=>Ue8 v []
   have hs:uc1 [] (j5 x (gL tV l j))=[j5 x (gL tV l j)]:=rfl;have e:L3 P (Xb5 x j [])=.next ⟨1,((j+1:Nat):Int),1,[[i (j5 x (gL tV l j)).x,i (j5 x (gL tV l j)).y,i (j5 x (gL tV l j)).z]],Bb0 [j5 x (gL tV l j)],x.x,x.y,x.z⟩:=by
    show M9 Stp.next Stp.exit Stp.fail P (Xb5 x j [])=_;simp only[M9,Xb5,h1,h2,z1,z2,z3,Int.toNat_natCast,hn,hb,hv,hu,Bool.not_false,o9];rw[btD (l6 hj)]
   rw[e];exact hnext (by rw[hs];rfl)
  |cons q s =>
   have rr:(Nat.beq (q::s).length (len (bL tV (q::s)))&&Nat.ble (((q::s).length+1)*24) room)=true:=qe4 rfl (by omega)
   show Nx (N0 Stp.next Stp.exit Stp.fail P (Xb5 x j (q::s))) _ _;simp only[N0,Xb5,h1,h2,Int.toNat_natCast,hn,hb,Ue8,rr,Of0];rw[btD (l6 hj)];cases hh:Kd4 (q::s) (j5 x (gL tV l j)) with
   |true =>
    refine hnext ?_;rw[se0 (Kd5 _ _)];unfold uc1;rw[hh];rfl
   |false =>
    refine hnext ?_;rw[se0 (Kd5 _ _)];unfold uc1;rw[hh,Cf7 _ _ hh];show (⟨1,_,(q::s).length+1,_,_,_,_,_⟩:o5)=⟨1,_,(q::s++[_]).length,_,_,_,_,_⟩;rw[Qlo];rfl
 ·obtain⟨hje,hi,hlen,hz⟩:=hi;have hje:j=l.length:=by omega
  subst hje;have hO:s=eb5 l o x:=by rw[hi,Qlv];rfl
  rw[<- hO];cases s with
  |nil =>
   refine⟨1,?_,rfl,_,rfl⟩;show M9 Stp.next Stp.exit Stp.fail P (Xb5 x l.length [])=_;simp only[M9,Xb5,h2];rw[bfD (q8 (Qlf _))]
  |cons q s =>
   refine⟨2,?_,rfl,_,rfl⟩;show N0 Stp.next Stp.exit Stp.fail P (Xb5 x l.length (q::s))=_;simp only[N0,Xb5,h2];rw[bfD (q8 (Qlf _))]
noncomputable def Kd6(a l:List V3)(j:Nat)(o:List V3):s9:=match o with
 |[]=>⟨0,l,a,(j:Int),0,[],[]⟩
 |q::o=>⟨1,l,a,(j:Int),(q::o).length,bL tV (q::o),Bb0 (q::o)⟩
theorem Cf8(a l:List V3)(ha:a.length<=48)(hl:l.length<=48):∃t s,lp (ma1 ⟨(a.length:Int)⟩) (Kd6 a l 0 [])=(t,s)/\(t=phV (W9 a l)+1/\∃j,s=Kd6 a l j (W9 a l)):=by
 refine ea3 (step:=ma1 ⟨(a.length:Int)⟩) (mk:=Kd6 a l) a.length (λj s=>j<=a.length/\s=(a.take j).foldl (eb5 l) []) (λt s=>t=phV (W9 a l)+1/\∃j,s=Kd6 a l j (W9 a l)) (by omega)
  (λj s hj hi=>?_) (λj s hj hi=>?_) 0 [] ⟨Qlq _,by simp⟩
 ·obtain⟨_,hi⟩:=hi;have hlen:s.length<=1000000:=by
   have h1:=Mc6 l (a.take j) [];rw[<- hi] at h1;have h2:=List.length_take_le j a;have h3:(a.take j).length*l.length<=48*48:=Nat.mul_le_mul (by omega) hl
   simp only[List.length_nil] at h1;omega
  have hn:=o8 hj (show a.length<=4611686018427387904 by omega)
  have hb:inB (j:Int) a.length=true:=f8 hj;have hT:(a.take (j+1)).foldl (eb5 l) []=eb5 l s (gL tV a j):=by
   rw[tb3 tV hj,Qlah,<- hi];rfl
  have hnext:∀{s':s9},s'=Kd6 a l (j+1) (eb5 l s (gL tV a j))->Nx (.next s') (λt=>t=phV (W9 a l)+1/\∃j',Kd6 a l j s=Kd6 a l j' (W9 a l)) (λs'=>∃o',s'=Kd6 a l (j+1) o'/\(j+1<=a.length/\o'=(a.take (j+1)).foldl (eb5 l) [])):=λ{s'} hs=>.nx ⟨_,hs,by omega,hT.symm⟩
  clear hi
  cases s with
  |nil =>
   obtain⟨t,s',k1,rfl,j',rfl⟩:=Ve1 (gL tV a j) l ⟨l,a,(a.length:Int),(j:Int),l,(l.length:Int),(gL tV a j).x,(gL tV a j).y,(gL tV a j).z⟩ rfl rfl hl [] (by simp) (λ_=>⟨rfl,rfl,rfl⟩)
   have k1:lp (L3 ⟨l,a,(a.length:Int),(j:Int),l,(l.length:Int),(gL tV a j).x,(gL tV a j).y,(gL tV a j).z⟩) ⟨0,0,0,[],[],0,0,0⟩=_:=k1;show Nx (N1 Stp.next Stp.exit Stp.fail ⟨(a.length:Int)⟩ ⟨0,l,a,(j:Int),0,[],[]⟩) _ _;simp only[N1,l9,k9,Int.toNat_natCast,hn,hb,k1];rw[btD (l6 hj)];cases hr:eb5 l [] (gL tV a j) with
   |nil=>exact hnext (by rw[hr];rfl)
   |cons q o=>exact hnext (by rw[hr];rfl)
  |cons q s =>
   obtain⟨t,s',k1,rfl,j',rfl⟩:=Ve1 (gL tV a j) l ⟨l,a,(a.length:Int),(j:Int),l,(l.length:Int),0,0,0⟩ rfl rfl hl (q::s) hlen (λh=>by cases h)
   have k1:lp (L3 ⟨l,a,(a.length:Int),(j:Int),l,(l.length:Int),0,0,0⟩) ⟨1,0,(q::s).length,bL tV (q::s),Bb0 (q::s),(gL tV a j).x,(gL tV a j).y,(gL tV a j).z⟩=_:=k1;show Nx (N2 Stp.next Stp.exit Stp.fail ⟨(a.length:Int)⟩ ⟨1,l,a,(j:Int),(q::s).length,bL tV (q::s),Bb0 (q::s)⟩) _ _;simp only[N2,l9,k9,Int.toNat_natCast,hn,hb,k1];rw[btD (l6 hj)];cases hr:eb5 l (q::s) (gL tV a j) with
   |nil=>exact hnext (by rw[hr];rfl)
   |cons q' o=>exact hnext (by rw[hr];rfl)
 ·obtain⟨hje,hi⟩:=hi;have hje:j=a.length:=by omega
  subst hje;have hO:s=W9 a l:=by rw[hi,Qlv];rfl
  rw[<- hO];cases s with
  |nil =>
   refine⟨1,?_,rfl,_,rfl⟩;show N1 Stp.next Stp.exit Stp.fail ⟨(a.length:Int)⟩ ⟨0,l,a,(a.length:Int),0,[],[]⟩=_;simp only[N1];rw[bfD (q8 (Qlf _))]
  |cons q s =>
   refine⟨2,?_,rfl,_,rfl⟩;show N2 Stp.next Stp.exit Stp.fail ⟨(a.length:Int)⟩ ⟨1,l,a,(a.length:Int),(q::s).length,bL tV (q::s),Bb0 (q::s)⟩=_;simp only[N2];rw[bfD (q8 (Qlf _))]
noncomputable def Ec2(a l:List V3):List V3×Int:=if 48<a.length\/48<l.length then ([],2) else Dc5 (W9 a l)
theorem Ve2(l:List V3)(n:Int):(two (r1L tV) r1I).rd (.tup [eL tV l,i n],[])=some (l,n):=by
 have h:(r1L tV).rd [] (eL tV l)=some l:=rf4 tV l;simp only[two,h];rfl
theorem Of1(m n:Nat):decide ((if (n:Int)>(m:Int) then (n:Int) else (m:Int))>48)=decide (48<m\/48<n):=by
 rw[decide_eq_decide]
 split<;>omega
theorem tf1(a l:List V3):∃x,Pb1 a l=some x/\(two (r1L tV) r1I).rd x=some (Ec2 a l):=by
 unfold Pb1 Ec2;rw[Of1];by_cases h:48<a.length\/48<l.length
 ·rw[decide_eq_true h,if_pos h];exact⟨_,rfl,rfl⟩
 ·rw[decide_eq_false h,if_neg h];obtain⟨t,s,k1,rfl,j,rfl⟩:=Cf8 a l (by omega) (by omega)
  have k1:lp (ma1 ⟨(a.length:Int)⟩) ⟨0,l,a,0,0,[],[]⟩=_:=k1;unfold pb2 pa0;simp only[l9,k9,k1,Nf8.1,Nf8.2];have hlen:(W9 a l).length<=900000:=by
   have h1:=Ve0 a l;have h3:a.length*l.length<=48*48:=Nat.mul_le_mul (by omega) (by omega)
   omega
  cases hr:W9 a l with
  |nil=>exact⟨_,rfl,Ve2 _ _⟩
  |cons q o =>
   rw[hr] at hlen;have hg:Ra7 (q::o)=true:=decide_eq_true ⟨by simp,hlen⟩
   have e1:slR tV (bL tV (q::o)) 0 (q::o).length=q::o:=vb4 tV _;have e2:okS tV (bL tV (q::o)) 0 (q::o).length=true:=Hb0 tV _;simp only[Kd6,phV];refine⟨(.tup [eL tV (Dc5 (q::o)).1,i (Dc5 (q::o)).2],[]),?_,Ve2 _ _⟩;show sl (okS tV (bL tV (q::o)) 0 (q::o).length) (sl (Ra7 (slR tV (bL tV (q::o)) 0 (q::o).length)) (some (b7.tup [eL tV (Ra6 (slR tV (bL tV (q::o)) 0 (q::o).length)).1,i (Ra6 (slR tV (bL tV (q::o)) 0 (q::o).length)).2],[])) none) none=_;rw[e1,e2,hg];rfl
theorem tf2(a l:List V3):eb2 a l=Ec2 a l:=by obtain⟨x,h,k⟩:=tf1 a l;unfold eb2;rw[h];exact Ka1 _ k
theorem tf3(a l:List V3):eb3 a l=true:=by obtain⟨x,h,k⟩:=tf1 a l;unfold eb3;rw[h];exact Za9 _ k
def rch(n e:V3):Int:=(n.x.natAbs:Int)*e.x+(n.y.natAbs:Int)*e.y+(n.z.natAbs:Int)*e.z
def fc9(e:V3):Bool:=(decide (0<=e.x)&&decide (e.x<=12))&&((decide (0<=e.y)&&decide (e.y<=12))&&(decide (0<=e.z)&&decide (e.z<=12)))
def pq(e:V3)(s:Int)(p:Pln):Pln:=⟨p.n,p.b+s*rch p.n e⟩
def okq(e:V3)(s:Int)(p:Pln):Bool:=okp p&&smb 2097152 (p.b+s*rch p.n e)
def Pb3(c:List Pln)(e:V3)(s:Int):List Pln×Bool:=if (fc9 e&&c.all (okq e s))=true then (c.map (pq e s),true) else ([],false)
structure B12(e:V3):Prop where
 x1:0<=e.x
 x2:e.x<=12
 y1:0<=e.y
 y2:e.y<=12
 z1:0<=e.z
 z2:e.z<=12
theorem jc4(e:V3):fc9 e=true↔B12 e:=by
 unfold fc9;simp only[Qll,decide_eq_true_eq];exact⟨λ⟨⟨a,b⟩,⟨c,d⟩,f,g⟩=>⟨a,b,c,d,f,g⟩,λ⟨a,b,c,d,f,g⟩=>⟨⟨a,b⟩,⟨c,d⟩,f,g⟩⟩
theorem Ad2{n e:Int}(hn:Sm 4608 n)(h0:0<=e)(h1:e<=12):0<=(n.natAbs:Int)*e/\(n.natAbs:Int)*e<=55296:=by
 have a:(n.natAbs:Int)<=4608:=by have:=hn.1;have:=hn.2;omega
 refine⟨Qlm (by omega) h0,?_⟩
 have:=Int.mul_le_mul a h1 h0 (by omega)
 omega
theorem ke4{p:Pln}(hp:okp p=true){e:V3}(he:B12 e):0<=rch p.n e/\rch p.n e<=165888:=by
 have hb:=Kb4 hp;have h1:=Ad2 ⟨hb.x1,hb.x2⟩ he.x1 he.x2;have h2:=Ad2 ⟨hb.y1,hb.y2⟩ he.y1 he.y2;have h3:=Ad2 ⟨hb.z1,hb.z2⟩ he.z1 he.z2;unfold rch;omega
theorem smL{n x:Int}(h1:-n<=x)(h2:x<=n)(hn:n<=1000000000000000000):Sm 1000000000000000000 x:=⟨by omega,by omega⟩
theorem Zd4{p:Pln}(hp:okp p=true){e:V3}(he:B12 e):Pa4 p.n e=rch p.n e:=by
 have hb:=Kb4 hp;have h1:=Ad2 ⟨hb.x1,hb.x2⟩ he.x1 he.x2;have h2:=Ad2 ⟨hb.y1,hb.y2⟩ he.y1 he.y2;have h3:=Ad2 ⟨hb.z1,hb.z2⟩ he.z1 he.z2;unfold Pa4;rw[Fb7 (smL hb.x1 hb.x2 (by omega)),Fb7 (smL hb.y1 hb.y2 (by omega)),Fb7 (smL hb.z1 hb.z2 (by omega))]
 simp only
 rw[N9 (n:=(p.n.x.natAbs:Int)*e.x) (by omega) (by omega),N9 (n:=(p.n.y.natAbs:Int)*e.y) (by omega) (by omega),N9 (n:=(p.n.z.natAbs:Int)*e.z) (by omega) (by omega),
  N9 (n:=(p.n.x.natAbs:Int)*e.x+(p.n.y.natAbs:Int)*e.y) (by omega) (by omega),N9 (by omega) (by omega)]
 rfl
noncomputable def ke5(p:Pln)(y:Int):Pln×Bool:=if (okp p&&(smb 4194304 y&&smb 2097152 (W (p.b+y))))=true then (⟨p.n,W (p.b+y)⟩,true) else (⟨⟨0,0,0⟩,0⟩,false)
theorem Ve3(p:Pln)(y:Int):∃x,Za3 p y=some x/\(two r1P r1B).rd x=some (ke5 p y):=by
 have e1:O2 4194304 [y]=smb 4194304 y:=by rw[Ob6 _ _ (by omega) (by simp)];simp
 have e2:O3 4194304 [y]=true:=Ob7 _ _ (by omega) (by simp)
 have e3:O2 2097152 [W (p.b+y)]=smb 2097152 (W (p.b+y)):=by rw[Ob6 _ _ (by omega) (by simp)];simp
 have e4:O3 2097152 [W (p.b+y)]=true:=Ob7 _ _ (by omega) (by simp)
 unfold Za3 ke5;simp only[Hd7,Hd8,e1,e2,e3,e4];cases okp p
 ·exact⟨_,rfl,rfl⟩
 ·cases smb 4194304 y
  ·exact⟨_,rfl,rfl⟩
  ·cases smb 2097152 (W (p.b+y))<;>exact⟨_,rfl,rfl⟩
theorem Kd7(p:Pln)(y:Int):xa5 p y=ke5 p y:=by
 obtain⟨x,h,k⟩:=Ve3 p y;unfold xa5;rw[h];exact Ka1 _ k
theorem Kd8(p:Pln)(y:Int):xa6 p y=true:=by
 obtain⟨x,h,k⟩:=Ve3 p y;unfold xa6;rw[h];exact Za9 _ k
theorem tf4{p:Pln}(hp:okp p=true)(b':Int):okp ⟨p.n,b'⟩=smb 2097152 b':=by
 unfold okp at hp ⊢;rw[Qll,Qll] at hp;rw[hp.1,hp.2.1];simp
theorem Ve4{e:V3}(he:B12 e){s y:Int}(hs:s=1\/s=-1){p:Pln}(hy:okp p=true->y=s*rch p.n e):ke5 p y=if okq e s p=true then (pq e s p,true) else (⟨⟨0,0,0⟩,0⟩,false):=by
 unfold ke5 okq pq;cases hp:okp p
 ·rfl
 ·have hr:=ke4 hp he;have hb:=Kb4 hp;have e1:=hy hp;subst e1;have hm:-165888<=s*rch p.n e/\s*rch p.n e<=165888:=by
   rcases hs with rfl|rfl<;>omega
  have h1:smb 4194304 (s*rch p.n e)=true:=(Za8 _ _).2 ⟨by omega,by omega⟩
  have hb1:=hb.b1;have hb2:=hb.b2;rw[h1,N9 (by omega) (by omega)]
  rfl
theorem Zd5(e:V3):qa9 e=some (b (fc9 e),[]):=by
 have hs:lp (L2 ⟨e.x,e.y,e.z⟩) ⟨0⟩=(if fc9 e then 2 else 1,(lp (L2 ⟨e.x,e.y,e.z⟩) ⟨0⟩).2):=by
  refine Prod.ext ?_ rfl;have h:=Ic9 (step:=L2 ⟨e.x,e.y,e.z⟩) (mk:=λj=>(⟨(j:Int)⟩:D0)) (c:=λn=>decide (n<0)||decide (n>12)) (u:=1) (fin:=2) tI [e.x,e.y,e.z] (by simp)
   (λj hj=>by
    have hj:j<3:=hj;have hc:j=0\/j=1\/j=2:=by omega
    have hw:W ((j:Int)+1)=((j+1:Nat):Int):=o8 hj (by omega)
    simp only[L2,Y7,Int.toNat_natCast,hw];rw[btD (show (j:Int)<3 by omega),bt (f8 hj)]
    rcases hc with rfl|rfl|rfl
    ·show sl true (sl (decide (e.x<0)) _ (sl (decide (e.x>12)) _ _)) _=sl (decide (e.x<0)||decide (e.x>12)) _ _
     cases decide (e.x<0)<;>cases decide (e.x>12)<;>rfl
    ·show sl true (sl (decide (e.y<0)) _ (sl (decide (e.y>12)) _ _)) _=sl (decide (e.y<0)||decide (e.y>12)) _ _
     cases decide (e.y<0)<;>cases decide (e.y>12)<;>rfl
    ·show sl true (sl (decide (e.z<0)) _ (sl (decide (e.z>12)) _ _)) _=sl (decide (e.z<0)||decide (e.z>12)) _ _
     cases decide (e.z<0)<;>cases decide (e.z>12)<;>rfl)
   (by simp only[L2,Y7];rw[bfD (by show ¬ ((3:Nat):Int)<3;omega)]) 0 (Qlq _)
  rw[Qlae] at h;rw[show (⟨0⟩:D0)=⟨((0:Nat):Int)⟩ from rfl,h]
  have hq:∀n:Int,(decide (n<0)||decide (n>12))=!(decide (0<=n)&&decide (n<=12)):=λn=>by
   by_cases h1:n<0<;>by_cases h2:n>12<;>simp[h1,h2]<;>omega
  simp only[List.any_cons,List.any_nil,Bool.or_false,hq];unfold fc9;cases (decide (0<=e.x)&&decide (e.x<=12))<;>cases (decide (0<=e.y)&&decide (e.y<=12))<;>cases (decide (0<=e.z)&&decide (e.z<=12))<;>rfl
 unfold qa9;rw[hs];cases fc9 e<;>rfl
theorem Zd6(e:V3):ra0 e=fc9 e:=by unfold ra0;rw[Zd5];rfl
theorem Zd7(e:V3):ra1 e=true:=by unfold ra1;rw[Zd5];rfl
theorem Ve5{α:Type}(t:Ty α){l:List α}{j:Nat}{c:α->Bool}(h:j<l.length):(l.take (j+1)).all c=((l.take j).all c&&c (gL t l j)):=by
 rw[tb3 t h,List.all_append,List.all_cons,List.all_nil,Bool.and_true]
theorem Cf9{α:Type}(t:Ty α){l:List α}{j:Nat}{c:α->Bool}(h:j<l.length)(hc:c (gL t l j)=false):l.all c=false:=by
 rw[List.all_eq_false];exact⟨_,zb2 t h,by rw[hc];simp⟩
section
variable(c:List Pln)(e:V3)(s:Int)
structure PI(j:Nat)(o:List Pln):Prop where
 le:j<=c.length
 o:o=(c.take j).map (pq e s)
 a:(c.take j).all (okq e s)=true
def PE{σ:Type}(mk:Nat->List Pln->σ)(t:Nat)(st:σ):Prop:=(t=1/\c.all (okq e s)=false)\/(c.all (okq e s)=true/\t=phP (c.map (pq e s))+2/\∃j,st=mk j (c.map (pq e s)))
theorem Ad3 {σ : Type} {step : σ → Stp σ} {mk : Nat → List Pln → σ} (hc : c.length ≤ 1000000)
  (h:∀j o,j<c.length->o.length<=1000000->step (mk j o)=if okq e s (gL tP c j)=true then .next (mk (j+1) (o++[pq e s (gL tP c j)])) else .exit 1)
  (hf:∀o,step (mk c.length o)=.exit (phP o+2)):∃t st,lp step (mk 0 [])=(t,st)/\PE c e s mk t st :=
 ea3 (step:=step) (mk:=mk) c.length (PI c e s) (PE c e s mk) (by omega)
  (λj o hj hi=>by
   have hlen:o.length<=1000000:=by
    rw[hi.o,Qls]
    have:=List.length_take_le j c
    omega
   rw[h j o hj hlen];cases hk:okq e s (gL tP c j) with
   |true=>exact .nx ⟨_,rfl,by omega,by rw[tb3 tP hj,List.map_append,<- hi.o];rfl,by rw[Ve5 tP hj,hi.a,hk];rfl⟩
   |false=>exact .ex (.inl ⟨rfl,Cf9 tP hj hk⟩))
  (λj o hj hi=>by
   have hje:j=c.length:=by have:=hi.le;omega
   subst hje;have ho:=hi.o;have ha:=hi.a;rw[Qlv] at ho ha;subst ho;exact⟨_,hf _,.inr ⟨ha,rfl,_,rfl⟩⟩) 0 [] ⟨Qlq _,by simp,by simp⟩
end
theorem Of2(O:List Pln)(p:Pln):app (bL tP O) [[i p.n.x,i p.n.y,i p.n.z,i p.b]]=bL tP (O++[p]):=Va9 tP O [p]
theorem Kd9 {σ : Type} {e : V3} {s : Int} {p : Pln} (k : Pln → Stp σ) :
  sl (!(if okq e s p=true then (pq e s p,true) else ((⟨⟨0,0,0⟩,0⟩:Pln),false)).2) (.exit 1) (k (if okq e s p=true then (pq e s p,true) else ((⟨⟨0,0,0⟩,0⟩:Pln),false)).1)=if okq e s p=true then k (pq e s p) else .exit 1:=by
 cases okq e s p<;>rfl
theorem Ld0(c:List Pln){e:V3}(he:B12 e)(hc:c.length<=1000000):∃t st,lp (Ja9 ⟨e.x,e.y,e.z,c,(c.length:Int)⟩) ⟨0,0,0,[]⟩=(t,st)/\PE c e 1 (λj o=>(⟨phP o,(j:Int),o.length,bL tP o⟩:p4)) t st:=by
 refine Ad3 c e 1 (step:=Ja9 ⟨e.x,e.y,e.z,c,(c.length:Int)⟩) (mk:=λj o=>(⟨phP o,(j:Int),o.length,bL tP o⟩:p4)) hc (λj o hj ho=>?_) (λo=>?_)
 ·have hn:=o8 hj (show c.length<=4611686018427387904 by omega)
  have hb:=f8 hj;have hp:ke5 (gL tP c j) (Aa7 ⟨e.x,e.y,e.z⟩ (gL tP c j))=if okq e 1 (gL tP c j)=true then (pq e 1 (gL tP c j),true) else (⟨⟨0,0,0⟩,0⟩,false):=Ve4 he (.inl rfl) λhp=>by
   rw[Int.one_mul];exact Zd4 hp he
  cases o with
  |nil =>
   show U4 Stp.next Stp.exit Stp.fail _ _=_;simp only[U4,Int.toNat_natCast,Kd7,Kd8,hp,hn,hb];rw[btD (l6 hj)];exact Kd9 (λp=>Stp.next (⟨1,((j+1:Nat):Int),1,[[i p.n.x,i p.n.y,i p.n.z,i p.b]]⟩:p4))
  |cons q o =>
   have rr:(Nat.beq (q::o).length (len (bL tP (q::o)))&&Nat.ble (((q::o).length+1)*32) room)=true:=Pb0 rfl (by omega)
   show U5 Stp.next Stp.exit Stp.fail _ _=_;simp only[U5,Int.toNat_natCast,Kd7,Kd8,hp,hn,hb,rr,Of2];rw[btD (l6 hj)];refine (Kd9 (λp=>Stp.next (⟨1,((j+1:Nat):Int),(q::o).length+1,bL tP (q::o++[p])⟩:p4))).trans ?_
   cases okq e 1 (gL tP c j)
   ·rfl
   ·show Stp.next (⟨1,_,(q::o).length+1,_⟩:p4)=Stp.next (⟨1,_,(q::o++[_]).length,_⟩:p4);rw[Qlo];rfl
 ·cases o with
  |nil =>
   show U4 Stp.next Stp.exit Stp.fail _ _=_;simp only[U4];rw[bfD (q8 (Qlf _))];rfl
  |cons q o =>
   show U5 Stp.next Stp.exit Stp.fail _ _=_;simp only[U5];rw[bfD (q8 (Qlf _))];rfl
theorem Ld1(c:List Pln){e:V3}(he:B12 e)(hc:c.length<=1000000):∃t st,lp (Ka0 ⟨e.x,e.y,e.z,c,(c.length:Int)⟩) ⟨0,0,0,[]⟩=(t,st)/\PE c e (-1) (λj o=>(⟨phP o,(j:Int),o.length,bL tP o⟩:p5)) t st:=by
 refine Ad3 c e (-1) (step:=Ka0 ⟨e.x,e.y,e.z,c,(c.length:Int)⟩) (mk:=λj o=>(⟨phP o,(j:Int),o.length,bL tP o⟩:p5)) hc (λj o hj ho=>?_) (λo=>?_)
 ·have hn:=o8 hj (show c.length<=4611686018427387904 by omega)
  have hb:=f8 hj;have hp:ke5 (gL tP c j) (Za4 ⟨e.x,e.y,e.z⟩ (gL tP c j))=if okq e (-1) (gL tP c j)=true then (pq e (-1) (gL tP c j),true) else (⟨⟨0,0,0⟩,0⟩,false):=Ve4 he (.inr rfl) λhp=>by
   show W (0-Pa4 (gL tP c j).n e)=_
   have:=ke4 hp he
   rw[Zd4 hp he,N9 (by omega) (by omega)]
   omega
  cases o with
  |nil =>
   show U6 Stp.next Stp.exit Stp.fail _ _=_;simp only[U6,Int.toNat_natCast,Kd7,Kd8,hp,hn,hb];rw[btD (l6 hj)];exact Kd9 (λp=>Stp.next (⟨1,((j+1:Nat):Int),1,[[i p.n.x,i p.n.y,i p.n.z,i p.b]]⟩:p5))
  |cons q o =>
   have rr:(Nat.beq (q::o).length (len (bL tP (q::o)))&&Nat.ble (((q::o).length+1)*32) room)=true:=Pb0 rfl (by omega)
   show U7 Stp.next Stp.exit Stp.fail _ _=_;simp only[U7,Int.toNat_natCast,Kd7,Kd8,hp,hn,hb,rr,Of2];rw[btD (l6 hj)];refine (Kd9 (λp=>Stp.next (⟨1,((j+1:Nat):Int),(q::o).length+1,bL tP (q::o++[p])⟩:p5))).trans ?_
   cases okq e (-1) (gL tP c j)
   ·rfl
   ·show Stp.next (⟨1,_,(q::o).length+1,_⟩:p5)=Stp.next (⟨1,_,(q::o++[_]).length,_⟩:p5);rw[Qlo];rfl
 ·cases o with
  |nil =>
   show U6 Stp.next Stp.exit Stp.fail _ _=_;simp only[U6];rw[bfD (q8 (Qlf _))];rfl
  |cons q o =>
   show U7 Stp.next Stp.exit Stp.fail _ _=_;simp only[U7];rw[bfD (q8 (Qlf _))];rfl
theorem se1(l:List Pln):(two (r1L tP) r1B).rd (.tup [.sl 0 0 l.length 0,b true],[⟨73,4,bL tP l,true,false,0⟩])=some (l,true):=by
 have h:(r1L tP).rd [⟨73,4,bL tP l,true,false,0⟩] (.sl 0 0 l.length 0)=some l:=by
  show Bool.rec (motive:=λ_=>Option (List Pln)) none (some (slR tP (bL tP l) 0 l.length)) (Bool.and true (okS tP (bL tP l) 0 l.length))=_
  rw[vb4,Hb0];rfl
 simp only[two,h];rfl
theorem Ve6(c:List Pln)(e:V3)(hc:c.length<=1000000):∃x,Ab4 c e=some x/\(two (r1L tP) r1B).rd x=some (Pb3 c e 1):=by
 unfold Ab4 Kb2 Ca0 Pb3;simp only[l9,k9,Zd6,Zd7];cases hb:fc9 e with
 |false=>exact⟨_,rfl,rfl⟩
 |true =>
  obtain⟨t,st,h,hE⟩:=Ld0 c ((jc4 e).1 hb) hc;rw[h]
  rcases hE with⟨rfl,ha⟩|⟨ha,rfl,j,rfl⟩
  ·rw[ha];exact⟨_,rfl,rfl⟩
  ·rw[ha];cases hm:c.map (pq e 1) with
   |nil=>exact⟨_,rfl,rfl⟩
   |cons q o=>exact⟨_,rfl,se1 (q::o)⟩
theorem Zd8(c:List Pln)(e:V3)(hc:c.length<=1000000):∃x,Za5 c e=some x/\(two (r1L tP) r1B).rd x=some (Pb3 c e (-1)):=by
 unfold Za5 Kb3 Ca1 Pb3;simp only[l9,k9,Zd6,Zd7];cases hb:fc9 e with
 |false=>exact⟨_,rfl,rfl⟩
 |true =>
  obtain⟨t,st,h,hE⟩:=Ld1 c ((jc4 e).1 hb) hc;rw[h]
  rcases hE with⟨rfl,ha⟩|⟨ha,rfl,j,rfl⟩
  ·rw[ha];exact⟨_,rfl,rfl⟩
  ·rw[ha];cases hm:c.map (pq e (-1)) with
   |nil=>exact⟨_,rfl,rfl⟩
   |cons q o=>exact⟨_,rfl,se1 (q::o)⟩
section
variable(c:List Pln)(e:V3)(hc:c.length<=1000000)
include hc
theorem Ld2:Sa9 c e=Pb3 c e 1:=by obtain⟨x,h,k⟩:=Ve6 c e hc;unfold Sa9;rw[h];exact Ka1 _ k
theorem Ld3:Ta0 c e=true:=by obtain⟨x,h,k⟩:=Ve6 c e hc;unfold Ta0;rw[h];exact Za9 _ k
theorem Zd9:Za6 c e=Pb3 c e (-1):=by obtain⟨x,h,k⟩:=Zd8 c e hc;unfold Za6;rw[h];exact Ka1 _ k
theorem ae0:Za7 c e=true:=by obtain⟨x,h,k⟩:=Zd8 c e hc;unfold Za7;rw[h];exact Za9 _ k
end
noncomputable def mxS(n:V3)(m:Int)(v:V3):Int:=if j7 v n>m then j7 v n else m
noncomputable def mxL(n:V3):List V3->Int
 |[]=>0
 |v::l=>l.foldl (mxS n) (j7 v n)
noncomputable def nd0(l:List V3)(n:V3):Int×Bool:=(mxL n l,decide (0<l.length))
theorem kf8(n v:V3):∀l,l≠[]->mxL n (l++[v])=mxS n (mxL n l) v
 |[],h=>absurd rfl h
 |w::l,_=>by
  show (l++[v]).foldl (mxS n) (j7 w n)=_;rw[Qlah];rfl
theorem Ve7{n:V3}{l:List V3}{j:Nat}(hj:j<l.length):mxL n (l.take (j+1))=if j=0 then j7 (gL tV l j) n else mxS n (mxL n (l.take j)) (gL tV l j):=by
 rw[tb3 tV hj];split
 ·rename_i h;subst h;rfl
 ·rename_i h;refine kf8 _ _ _ λe=>?_
  have:=congrArg List.length e
  rw[List.length_take,List.length_nil] at this;omega
theorem Ad4(l:List V3)(n:V3)(hl:l.length<=1000000):Pa5 l n=some (.tup [i (nd0 l n).1,b (nd0 l n).2],[]):=by
 obtain⟨t,s,h,rfl,k,rfl⟩:=ea3 (step:=ka3 ⟨l,l,(l.length:Int),n.x,n.y,n.z⟩) (mk:=λj (m:Int)=>(⟨m,(j:Int)⟩:W5)) l.length (λj m=>j<=l.length/\m=mxL n (l.take j)) (λt s=>t=1/\∃k:Int,s=⟨mxL n l,k⟩) (by omega)
  (λj m hj hi=>by
   obtain⟨_,hi⟩:=hi;have hn:=o8 hj (show l.length<=4611686018427387904 by omega)
   have hT:=Ve7 (n:=n) hj;simp only[ka3,ra2,Int.toNat_natCast,hn];rw[btD (l6 hj),bt (f8 hj)];by_cases h0:j=0
   ·subst h0;exact .nx ⟨_,rfl,by omega,by rw[hT];rfl⟩
   ·rw[if_neg h0,<- hi] at hT;rw[bf (by rw[beq_eq_false_iff_ne];omega)]
    unfold mxS at hT
    split at hT
    ·rename_i h;rw[btD h];exact .nx ⟨_,rfl,by omega,hT.symm⟩
    ·rename_i h;rw[bfD h];exact .nx ⟨_,rfl,by omega,hT.symm⟩)
  (λj m hj hi=>by
   obtain⟨hje,hi⟩:=hi;have hje:j=l.length:=by omega
   subst hje;rw[Qlv] at hi;subst hi;refine⟨1,?_,rfl,_,rfl⟩;simp only[ka3,ra2];rw[bfD (q8 (Qlf _))]) 0 0 ⟨Qlq _,by simp[mxL]⟩
 have h:lp (ka3 ⟨l,l,(l.length:Int),n.x,n.y,n.z⟩) ⟨0,0⟩=_:=h;unfold Pa5 nd0;simp only[l9,k9,h];have e:decide ((l.length:Int)>0)=decide (0<l.length):=by rw[decide_eq_decide];omega
 rw[e];rfl
theorem Ad5(l:List V3)(n:V3)(hl:l.length<=1000000):Pa6 l n=nd0 l n:=by unfold Pa6;rw[Ad4 l n hl];rfl
theorem Ad6(l:List V3)(n:V3)(hl:l.length<=1000000):Pa7 l n=true:=by unfold Pa7;rw[Ad4 l n hl];rfl
theorem se2(l:List V3)(hl:l.length<=1000000000):Ia0 l l=some (b true,[]):=by
 have he:∀v:V3,(v.x==v.x&&(v.y==v.y&&(v.z==v.z&&true)))=true:=λv=>by simp
 have h:=Ic9 (step:=ra3 ⟨l,l⟩) (mk:=λj=>(⟨(j:Int)⟩:M1)) (c:=λ_=>false) (u:=1) (fin:=2) tV l hl
  (λj hj=>by
   simp only[ra3,ma2,Int.toNat_natCast,o8 hj (by omega),he]
   rw[btD (l6 hj),bt (f8 hj),bt (f8 hj)]
   rfl)
  (by simp only[ra3,ma2];rw[bfD (q8 (Qlf _))]) 0 (Qlq _)
 rw[Qlae,show (l.any λ_=>false)=false by simp] at h
 unfold Ia0;simp only[l9,k9];rw[show (⟨0⟩:M1)=⟨((0:Nat):Int)⟩ from rfl,h,bf (by simp)]
 rfl
theorem kf9(l:List V3)(hl:l.length<=1000000000):Ia1 l l=true:=by unfold Ia1;rw[se2 l hl];rfl
theorem lf0(l:List V3)(hl:l.length<=1000000000):Ia2 l l=true:=by unfold Ia2;rw[se2 l hl];rfl
theorem lf1:hb9=[⟨0,0,0⟩,⟨1,0,0⟩,⟨0,1,0⟩,⟨0,0,1⟩]:=rfl
theorem lf2:Ca2=true:=rfl
theorem Pc6:∀(l r:List V3),l.Pairwise LtV->r.Pairwise LtV->(∀v,v∈l↔v∈r)->l=r
 |[],[],_,_,_=>rfl
 |[],y::r,_,_,h=>absurd ((h y).2 (Qlk ..)) (by simp)
 |x::l,[],_,_,h=>absurd ((h x).1 (Qlk ..)) (by simp)
 |x::l,y::r,h1,h2,h=>by
  obtain⟨a1,a2⟩:=List.pairwise_cons.1 h1;obtain⟨b1,b2⟩:=List.pairwise_cons.1 h2;have e:x=y:=by
   rcases Qlc.1 ((h x).1 (Qlk ..)) with e|hx
   ·exact e
   ·rcases Qlc.1 ((h y).2 (Qlk ..)) with e|hy
    ·exact e.symm
    ·exact absurd (Lc4 (b1 x hx) (a1 y hy)) (Dc1 y)
  subst e
  have:l=r:=Pc6 l r a2 b2 λv=>by
   have hv:=h v;simp only[Qlc] at hv;constructor
   ·intro hm
    rcases hv.1 (.inr hm) with e|h'
    ·subst e;exact absurd (a1 v hm) (Dc1 v)
    ·exact h'
   ·intro hm
    rcases hv.2 (.inr hm) with e|h'
    ·subst e;exact absurd (b1 v hm) (Dc1 v)
    ·exact h'
  rw[this]
def N46(n:V3):Prop:=Sm 4608 n.x/\Sm 4608 n.y/\Sm 4608 n.z
noncomputable def cr3(N:List V3)(a c k:Nat):Bool:=dot (c8 (gL tV N a) (gL tV N c)) (gL tV N k) != 0
noncomputable def cr2(N:List V3)(a c:Nat):Bool:=(List.range c).any (cr3 N a c)
noncomputable def cr1(N:List V3)(a:Nat):Bool:=(List.range a).any (cr2 N a)
noncomputable def cr0(N:List V3):Bool:=(List.range N.length).any (cr1 N)
section
variable(N:List V3)(hN:∀n∈N,N46 n)(hl:N.length<=1000000)
include hN hl
end
theorem lf3{l:List V3}(hl:l.all inV=true):∀p∈ws,∀v∈l,dot p.n v<=p.b:=λp hp v hv=>by
 have:=Qe5 (Qlb.1 hl v hv) p hp
 simp only[rmZ,ipt,dot] at this ⊢;omega
section
variable{l:List V3}(hl:l.all inV=true)(h4:Sol l)
include hl
theorem se3(v:V3):v∈va5 (F0 l) l↔v∈l/\Spn (F0 l) v:=by
 unfold va5;rw[Qla,jc1];exact⟨λh=>⟨h.1,(Se5 hl h.1).1 h.2⟩,λh=>⟨h.1,(Se5 hl h.1).2 h.2⟩⟩
include h4
theorem Ub4{n:V3}{b:Int}(hv:∀v∈va5 (F0 l) l,dot n v<=b):∀x∈l,dot n x<=b:=by
 have hfacs:=re2 hl λp hp=>(ea4 hl p).2 hp
 have hall:∀p∈F0 l++ws,∀v∈l,dot p.n v<=p.b:=λp hp=>by
  rcases List.mem_append.1 hp with hp|hp
  ·exact ((ea4 hl p).1 hp).hd
  ·exact lf3 hl p hp
 intro x hx;have hz:∀(a:Pln) (v:V3),rmZ a ⟨v.x,v.y,v.z,1⟩=a.b-dot a.n v:=λa v=>by simp only[rmZ,dot];omega
 have hI:Inr (F0 l++ws) ⟨x.x,x.y,x.z,1⟩:=⟨by show (0:Int)<1;omega,λp hp=>by rw[hz];have:=hall p hp x hx;omega⟩
 have key:=Aa8 (ie8 (F0 l)) (h:=⟨n,b⟩) (λy hy=>by
  obtain⟨v,hvl,he,hs⟩:=if4 h4 hfacs hall hy;have h1:=hv v ((se3 hl v).2 ⟨hvl,hs⟩);have h2:=he.rm ⟨n,b⟩;rw[hz] at h2;have hw:=hy.w;have h3:0<=(b-dot n v)*y.pw:=Qlm (by omega) (by omega)
  have h4:rmZ ⟨n,b⟩ y*1=(b-dot n v)*y.pw:=h2
  omega) hI
 rw[hz] at key;have key:0<=b-dot n x:=key;omega
theorem ib0{v:V3}(hv:v∈va5 (F0 l) l):v∈l:=((se3 hl v).1 hv).1
theorem ke6:∃v,v∈va5 (F0 l) l:=by
 apply Qld;intro hno;obtain⟨x,hx⟩:=h4.ne
 have:=Ub4 hl h4 (n:=⟨0,0,0⟩) (b:=-1) (λv hv=>absurd ⟨v,hv⟩ hno) x hx
 simp[dot] at this
theorem lf4:Sol (va5 (F0 l) l):=by
 obtain⟨a,ha⟩:=ke6 hl h4
 rcases Id9 ((va5 (F0 l) l).map λv=>C3 v a) with⟨x,y,z,hx,hy,hz,hw⟩|⟨d,hd,h⟩
 ·obtain⟨u,hu,rfl⟩:=Qle.1 hx;obtain⟨v,hv,rfl⟩:=Qle.1 hy;obtain⟨w,hw',rfl⟩:=Qle.1 hz;exact⟨a,v,w,u,ha,hv,hw',hu,λe=>hw (by rw[<- e];simp only[dot,c8,N3];grind)⟩
 ·exfalso;have e:∀v∈va5 (F0 l) l,dot d v=dot d a:=λv hv=>by
   have:=h _ (Qle.2 ⟨v,hv,rfl⟩)
   simp only[dot,C3] at this ⊢
   grind
  obtain⟨v,hv,hne⟩:=h4.off hd (dot d a);have h1:=Ub4 hl h4 (n:=d) (b:=dot d a) (λw hw=>by rw[e w hw];exact Qlaf _) v hv
  have h2:=Ub4 hl h4 (n:=neg d) (b:=-dot d a) (λw hw=>by
   have:=e w hw
   have h3:dot (neg d) w=-dot d w:=by simp only[dot,neg];grind
   omega) v hv
  have h3:dot (neg d) v=-dot d v:=by simp only[dot,neg];grind
  omega
theorem se4:(va5 (F0 l) l).all inV=true:=Qlb.2 λv hv=>Qlb.1 hl v (ib0 hl h4 hv)
theorem lf5{p:Pln}(hp:db9 l p):db9 (va5 (F0 l) l) p:=by
 refine⟨⟨λv hv=>hp.hd v (ib0 hl h4 hv),?_⟩,hp.ok⟩
 obtain⟨u,w,x,hu,hw,hx,h3,t1,t2,t3⟩:=hp.on
 -- a ie6 on the plane
 obtain⟨a,ha,ta⟩:∃a∈va5 (F0 l) l,dot p.n a=p.b:=by
  apply Qld;intro hno
  have:=Ub4 hl h4 (n:=p.n) (b:=p.b-1) (λv hv=>by
   have h1:=hp.hd v (ib0 hl h4 hv);have h2:dot p.n v≠p.b:=λe=>hno ⟨v,hv,e⟩
   omega) u hu
  omega
 rcases Id9 (p.n::(((va5 (F0 l) l).filter λv=>dot p.n v==p.b).map λv=>C3 v a)) with⟨n1,n2,n3,k1,k2,k3,hne⟩|⟨d,hd,hz⟩
 ·have on : ∀ {n}, n ∈ p.n :: (((va5 (F0 l) l).filter fun v => dot p.n v == p.b).map fun v => C3 v a) → n = p.n ∨ ∃ v ∈ va5 (F0 l) l, dot p.n v = p.b ∧ n = C3 v a := fun {n} hn => by
   rcases Qlc.1 hn with e|hn
   ·exact .inl e
   ·obtain⟨v,hv,rfl⟩:=Qle.1 hn;obtain⟨h1,h2⟩:=Qla.1 hv;exact .inr ⟨v,h1,beq_iff_eq.1 h2,rfl⟩
  have fin:∀{v1 v2:V3},v1∈va5 (F0 l) l->v2∈va5 (F0 l) l->dot p.n v1=p.b->dot p.n v2=p.b->dot p.n (c8 (C3 v1 a) (C3 v2 a))≠0->∃u w x,u∈va5 (F0 l) l/\w∈va5 (F0 l) l/\x∈va5 (F0 l) l/\N3 u w x≠⟨0,0,0⟩/\dot p.n u=p.b/\dot p.n w=p.b/\dot p.n x=p.b:=λ{v1 v2} hv1 hv2 e1 e2 h=>⟨a,v1,v2,ha,hv1,hv2,yd8 h,ta,e1,e2⟩
  rcases on k1 with rfl|⟨v1,m1,e1,rfl⟩<;>rcases on k2 with rfl|⟨v2,m2,e2,rfl⟩<;>rcases on k3 with rfl|⟨v3,m3,e3,rfl⟩
  ·exact absurd (by simp only[dot,c8];grind) hne
  ·exact absurd (by simp only[dot,c8];grind) hne
  ·exact absurd (by simp only[dot,c8];grind) hne
  ·exact fin m2 m3 e2 e3 hne
  ·exact absurd (by simp only[dot,c8];grind) hne
  ·exact fin m3 m1 e3 e1 λe=>hne (by rw[<- e];simp only[dot,c8];grind)
  ·exact fin m1 m2 e1 e2 λe=>hne (by rw[<- e];simp only[dot,c8];grind)
  ·exfalso;have q:∀v:V3,dot p.n v=p.b->dot p.n (C3 v a)=0:=λv e=>by
    have:dot p.n (C3 v a)=dot p.n v-dot p.n a:=by simp only[dot,C3];grind
    omega
   have r1:=q v1 e1;have r2:=q v2 e2;have r3:=q v3 e3;have hw:mw ⟨C3 v1 a,0⟩ ⟨C3 v2 a,0⟩ ⟨C3 v3 a,0⟩≠0:=hne;refine Ab7 hp.ok (Cc9 hw ?_ ?_ ?_)
   ·rw[<- r1];simp only[dot];grind
   ·rw[<- r2];simp only[dot];grind
   ·rw[<- r3];simp only[dot];grind
 ·exfalso;have hdn:dot p.n d=0:=hz _ Qlk;have hdv:∀v∈va5 (F0 l) l,dot p.n v=p.b->dot d v=dot d a:=λv hv e=>by
   have:=hz _ (Qlw _ (Qle.2 ⟨v,Qla.2 ⟨hv,beq_iff_eq.2 e⟩,rfl⟩))
   simp only[dot,C3] at this ⊢
   grind
  -- one of the of5 points is off the line
  have hoff:¬ (dot d u=dot d a/\dot d w=dot d a/\dot d x=dot d a):=λ⟨g1,g2,g3⟩=>by
   have ht:=(xa7 (lb3 (Qlb.1 hl u hu) (Qlb.1 hl w hw) (Qlb.1 hl x hx) h3)).2;have hm:mw p ⟨C3 w u,0⟩ ⟨C3 x u,0⟩≠0:=by
    have hN:mw p ⟨C3 w u,0⟩ ⟨C3 x u,0⟩=dot p.n (N3 u w x):=rfl;rw[hN];intro e;obtain⟨_,⟨g,hg,f1,f2,f3⟩,_⟩:=ht;have f1:g*(G5 u w x).1.n.x=(N3 u w x).x:=f1;have f2:g*(G5 u w x).1.n.y=(N3 u w x).y:=f2;have f3:g*(G5 u w x).1.n.z=(N3 u w x).z:=f3;have e2:g*dot p.n (G5 u w x).1.n=0:=by rw[<- e];simp only[dot];rw[<- f1,<- f2,<- f3];grind
    have e3:=(Qlg.1 e2).resolve_left (by omega)
    have hpn:=Ab7 hp.ok;have hpos:=re1 hpn
    rcases fc2 ((xa7 (lb3 (Qlb.1 hl u hu) (Qlb.1 hl w hw) (Qlb.1 hl x hx) h3)).2) hp.ok t1 t2 t3 with hq|hq
    ·rw[<- hq] at e3;omega
    ·have : dot p.n (G5 u w x).1.n = -dot p.n p.n := by
      have h5:p.n=⟨-(G5 u w x).1.n.x,-(G5 u w x).1.n.y,-(G5 u w x).1.n.z⟩:=congrArg Pln.n hq;have h6:(G5 u w x).1.n=⟨-p.n.x,-p.n.y,-p.n.z⟩:=by
       rw[h5];simp
      rw[h6];simp only[dot]
      grind
     omega
   refine hd (Cc9 hm hdn ?_ ?_)
   ·show dot (C3 w u) d=0
    have:dot (C3 w u) d=dot d w-dot d u:=by simp only[dot,C3];grind
    omega
   ·show dot (C3 x u) d=0
    have:dot (C3 x u) d=dot d x-dot d u:=by simp only[dot,C3];grind
    omega
  -- so a plane that is turned a little would Nf6 it out
  have main:∀(e:V3) (t:V3),t∈l->dot p.n t=p.b->(∀v∈va5 (F0 l) l,dot p.n v=p.b->dot e v=dot e a)->dot e t<=dot e a:=λe t ht hte hev=>by
   obtain⟨N,hN,hbig⟩:=big e ((va5 (F0 l) l).map λv=>⟨C3 v a,0⟩)
   have:=Ub4 hl h4 (n:=⟨e.x+N*p.n.x,e.y+N*p.n.y,e.z+N*p.n.z⟩) (b:=dot e a+N*p.b) (λv hv=>by
    have h1:dot ⟨e.x+N*p.n.x,e.y+N*p.n.y,e.z+N*p.n.z⟩ v=dot e v+N*dot p.n v:=by simp only[dot];grind
    rw[h1];by_cases hvp:dot p.n v=p.b
    ·rw[hvp,hev v hv hvp];exact Qlaf _
    ·have h2:=hp.hd v (ib0 hl h4 hv);have h3:=(hbig _ (Qle.2 ⟨v,hv,rfl⟩)).1;have h4:dot (C3 v a) e=dot e v-dot e a:=by simp only[dot,C3];grind
     have h3:dot (C3 v a) e<=N:=h3;have h5:N*dot p.n v<=N*(p.b-1):=Qlt (by omega) (by omega)
     rw[Int.mul_sub,Int.mul_one] at h5
     omega) t ht
   have h1:dot ⟨e.x+N*p.n.x,e.y+N*p.n.y,e.z+N*p.n.z⟩ t=dot e t+N*dot p.n t:=by simp only[dot];grind
   rw[h1,hte] at this;omega
  have both:∀t,t∈l->dot p.n t=p.b->dot d t=dot d a:=λt ht hte=>by
   have g1:=main d t ht hte hdv;have g2:=main (neg d) t ht hte (λv hv e=>by
    have:=hdv v hv e
    have q1:∀z:V3,dot (neg d) z=-dot d z:=λz=>by simp only[dot,neg];grind
    rw[q1,q1];omega)
   have q1:∀z:V3,dot (neg d) z=-dot d z:=λz=>by simp only[dot,neg];grind
   rw[q1,q1] at g2;omega
  exact hoff ⟨both u hu t1,both w hw t2,both x hx t3⟩
theorem Ve8:F0 (va5 (F0 l) l)=F0 l:=by
 refine Lc2 (tc4 _) (tc4 _) λp=>?_
 rw[ea4 (se4 hl h4),ea4 hl];refine⟨λh=>⟨⟨Ub4 hl h4 h.hd,?_⟩,h.ok⟩,λh=>lf5 hl h4 h⟩
 obtain⟨u,w,x,hu,hw,hx,hr⟩:=h.on;exact⟨u,w,x,ib0 hl h4 hu,ib0 hl h4 hw,ib0 hl h4 hx,hr⟩
theorem se5(h48:l.length<=48):lb4 (va5 (F0 l) l)=0:=by
 refine jc3 ?_ (se4 hl h4) (lf4 hl h4);have h1:=Yc5 l;have h2:(va5 (F0 l) l).length<=(dis l).length:=Qlao _ _;omega
end
theorem lf6(p:Pln)(v:V3):Ub0 ⟨p.n.x,p.n.y,p.n.z,p.b,v.x,v.y,v.z⟩=⟨1,decide (ba9 p v>0)⟩:=by
 unfold Ub0 Ec0;simp only[Dc3,Dc4];rfl
theorem lf7 (l : List Pln) (v : V3) (hl : l.length ≤ 1000000000) :
  oa0 ⟨l,v.x,v.y,v.z⟩=⟨1,if l.any (λp=>decide (ba9 p v>0)) then ((l.findIdx (λp=>decide (ba9 p v>0)):Nat):Int) else -1⟩:=by
 have h:=xa0 (step:=Q7 ⟨l,(l.length:Int),v.x,v.y,v.z⟩) (mk:=λj=>(⟨(j:Int)⟩:w7)) (c:=λp=>decide (ba9 p v>0)) (u:=1) (fin:=2) tP l hl
  (λj hj=>by
   simp only[Q7,ca0,Int.toNat_natCast,lf6,o8 hj (show l.length<=4611686018427387904 by omega)]
   rw[btD (l6 hj),bt (f8 hj)]
   rfl)
  (by simp only[Q7,ca0];rw[bfD (q8 (Qlf _))]) 0 (Qlq _)
 rw[Qlae] at h;unfold oa0 Ma5;simp only[l9,k9];rw[show (⟨0⟩:w7)=⟨((0:Nat):Int)⟩ from rfl,h]
 split
 ·simp only[Nat.zero_add];rfl
 ·rfl
theorem lf8(l:List Pln)(v:V3)(hl:l.length<=1000000000):ga1 ⟨l,v.x,v.y,v.z⟩=⟨1,l.any λp=>decide (ba9 p v>0)⟩:=by
 unfold ga1 Ba2;simp only[l9,k9,lf7 l v hl];split
 ·rename_i h;rw[h,show decide (((l.findIdx (λp=>decide (ba9 p v>0)):Nat):Int)>=0)=true from decide_eq_true (by omega)];rfl
 ·rename_i h;rw[Bool.not_eq_true] at h;rw[h];rfl
theorem Ve9{l:List V3}(hc:lb4 l=0){v:V3}(hv:inV v=true)(hf:∀p∈F0 l,dot p.n v<=p.b):Ub1 l v=some (b true,[]):=by
 obtain⟨h48,hl,h4⟩:=Lc6 hc;have hne:1<=l.length:=by
  obtain⟨a,ha⟩:=h4.ne;exact List.length_pos_of_mem ha
 have hg:sa4 l=true:=decide_eq_true ⟨hne,by omega⟩
 have hp:ja6 l=(F0 l,0):=by unfold ja6 Ta1;rw[if_pos hc]
 have hF:=Yd6 h48 hl;have hany:(F0 l).any (λp=>decide (ba9 p v>0))=false:=by
  rw[List.any_eq_false];intro p hp' hs
  have:=(kd8 ((ea4 hl p).1 hp').ok hv).1 (of_decide_eq_true hs)
  have:=hf p hp'
  omega
 unfold Ub1;simp only[l9,ta5,k9,hg,hp,(ec8 v).1,(ec8 v).2,hv,lf8 (F0 l) v (by omega),hany]
 rfl
theorem We0{l:List V3}(hc:lb4 l=0){v:V3}(hv:inV v=true)(hf:∀p∈F0 l,dot p.n v<=p.b):Ub2 l v=true:=by unfold Ub2;rw[Ve9 hc hv hf];rfl
theorem We1{l:List V3}(hc:lb4 l=0){v:V3}(hv:inV v=true)(hf:∀p∈F0 l,dot p.n v<=p.b):Ub3 l v=true:=by unfold Ub3;rw[Ve9 hc hv hf];rfl
def va6(a c:V3):V3:=⟨a.x+c.x,a.y+c.y,a.z+c.z⟩
theorem ke7{a c:V3}(ha:Sm 1000 a.x/\Sm 1000 a.y/\Sm 1000 a.z)(hc:Sm 1000 c.x/\Sm 1000 c.y/\Sm 1000 c.z):j5 a c=va6 a c:=by
 obtain⟨⟨a1,a2⟩,⟨a3,a4⟩,a5,a6⟩:=ha;obtain⟨⟨c1,c2⟩,⟨c3,c4⟩,c5,c6⟩:=hc;unfold j5 va6;rw[N9 (by omega) (by omega),N9 (by omega) (by omega),N9 (by omega) (by omega)]
theorem ib1(n a c:V3):dot n (va6 a c)=dot n a+dot n c:=by simp only[dot,va6];grind
structure Sx(A B:List V3):Prop where
 a:Sol A
 b:∃y,y∈B
 sa:∀x∈A,Sm 1000 x.x/\Sm 1000 x.y/\Sm 1000 x.z
 sb:∀y∈B,Sm 1000 y.x/\Sm 1000 y.y/\Sm 1000 y.z
 i:∀x∈A,∀y∈B,inV (va6 x y)=true
 la:A.length<=48
 lb:B.length<=48
 l:(W9 A B).length<=48
section
variable{A B:List V3}(h:Sx A B)
include h
theorem Sx.mem(w:V3):w∈W9 A B↔∃x∈A,∃y∈B,w=va6 x y:=by
 rw[Zd2];constructor
 ·rintro⟨x,hx,y,hy,rfl⟩;exact⟨x,hx,y,hy,ke7 (h.sa x hx) (h.sb y hy)⟩
 ·rintro⟨x,hx,y,hy,rfl⟩;exact⟨x,hx,y,hy,(ke7 (h.sa x hx) (h.sb y hy)).symm⟩
theorem Sx.inV:(W9 A B).all Ce.inV=true:=Qlb.2 λw hw=>by
 obtain⟨x,hx,y,hy,rfl⟩:=(h.mem w).1 hw;exact h.i x hx y hy
theorem Sx.sol:Sol (W9 A B):=by
 obtain⟨a,c,k,v,ha,hc,hk,hv,hne⟩:=h.a;obtain⟨y,hy⟩:=h.b;exact⟨va6 a y,va6 c y,va6 k y,va6 v y,(h.mem _).2 ⟨a,ha,y,hy,rfl⟩,(h.mem _).2 ⟨c,hc,y,hy,rfl⟩,(h.mem _).2 ⟨k,hk,y,hy,rfl⟩,(h.mem _).2 ⟨v,hv,y,hy,rfl⟩,λe=>hne (by
  rw[<- e];simp only[dot,N3,c8,C3,va6];grind)⟩
theorem Sx.chk:lb4 (W9 A B)=0:=jc3 h.l h.inV h.sol
theorem Sx.sum:Ec2 A B=(va5 (F0 (W9 A B)) (W9 A B),0):=by
 unfold Ec2 Dc5
 have:=h.la;have:=h.lb
 rw[if_neg (by omega),if_pos h.chk]
theorem Sx.has {w : V3} (hw : Ce.inV w = true) (hf : ∀ (n : V3) (b : Int), (∀ x ∈ A, ∀ y ∈ B, dot n x + dot n y ≤ b) → dot n w ≤ b) :
  Ub2 (va5 (F0 (W9 A B)) (W9 A B)) w=true/\Ub3 (va5 (F0 (W9 A B)) (W9 A B)) w=true:=by
 have hc:=se5 h.inV h.sol h.l;have hk:∀p∈F0 (va5 (F0 (W9 A B)) (W9 A B)),dot p.n w<=p.b:=λp hp=>by
  rw[Ve8 h.inV h.sol] at hp;have hd:=((ea4 h.inV p).1 hp).hd;refine hf p.n p.b λx hx y hy=>?_
  have:=hd _ ((h.mem _).2 ⟨x,hx,y,hy,rfl⟩)
  rwa [ib1] at this
 exact⟨We0 hc hw hk,We1 hc hw hk⟩
end
theorem Df0(n:V3)(m:Int)(v:V3):m<=mxS n m v/\j7 v n<=mxS n m v/\(mxS n m v=m\/mxS n m v=j7 v n):=by
 unfold mxS
 split<;>omega
theorem se6(n:V3):∀(l:List V3) (m:Int),m<=l.foldl (mxS n) m/\(∀v∈l,j7 v n<=l.foldl (mxS n) m)/\(l.foldl (mxS n) m=m\/∃v∈l,l.foldl (mxS n) m=j7 v n)
 |[],m=>⟨Qlaf _,λv hv=>(by cases hv),.inl rfl⟩
 |w::l,m=>by
  obtain⟨h1,h2,h3⟩:=se6 n l (mxS n m w);obtain⟨k1,k2,k3⟩:=Df0 n m w;rw[List.foldl_cons];refine⟨by omega,λv hv=>?_,?_⟩
  ·rcases Qlc.1 hv with rfl|hv
   ·omega
   ·exact h2 v hv
  ·rcases h3 with h3|⟨v,hv,h3⟩
   ·rcases k3 with k3|k3
    ·exact .inl (by rw[h3,k3])
    ·exact .inr ⟨w,Qlk,by rw[h3,k3]⟩
   ·exact .inr ⟨v,Qlw _ hv,h3⟩
theorem Ld4(n:V3){l:List V3}(hl:l≠[]):(∀v∈l,j7 v n<=mxL n l)/\∃v∈l,mxL n l=j7 v n:=by
 cases l with
 |nil=>exact absurd rfl hl
 |cons w l =>
  obtain⟨h1,h2,h3⟩:=se6 n l (j7 w n);refine⟨λv hv=>?_,?_⟩
  ·rcases Qlc.1 hv with rfl|hv
   ·exact h1
   ·exact h2 v hv
  ·rcases h3 with h3|⟨v,hv,h3⟩
   ·exact⟨w,Qlk,h3⟩
   ·exact⟨v,Qlw _ hv,h3⟩
theorem Ld5{v n:V3}(hv:Sm 1000 v.x/\Sm 1000 v.y/\Sm 1000 v.z)(hn:Sm 1000 n.x/\Sm 1000 n.y/\Sm 1000 n.z):j7 v n=dot n v/\Sm 3000000 (dot n v):=by
 obtain⟨⟨a1,a2⟩,⟨a3,a4⟩,a5,a6⟩:=hv;obtain⟨⟨c1,c2⟩,⟨c3,c4⟩,c5,c6⟩:=hn;have r1:=mb a1 a2 c1 c2;have r2:=mb a3 a4 c3 c4;have r3:=mb a5 a6 c5 c6;have e1:=Qlu n.x v.x;have e2:=Qlu n.y v.y;have e3:=Qlu n.z v.z;unfold j7 dot;simp only[zb1,Tb3];rw[N9 (by omega) (by omega)]
 exact⟨by omega,by omega,by omega⟩
theorem lf9{l:List V3}(hl:l.all inV=true)(h4:Sol l):va5 (F0 l) l≠[]:=λe=>by
 obtain⟨v,hv⟩:=ke6 hl h4;rw[e] at hv;cases hv
theorem Sx.mx {A B : List V3} (h : Sx A B) {n : V3} (hn : Sm 1000 n.x ∧ Sm 1000 n.y ∧ Sm 1000 n.z) :
  mxL n (va5 (F0 (W9 A B)) (W9 A B))=W (mxL n A+mxL n B):=by
 have hA:A≠[]:=λe=>by obtain⟨v,hv⟩:=h.a.ne;rw[e] at hv;cases hv
 have hB:B≠[]:=λe=>by obtain⟨v,hv⟩:=h.b;rw[e] at hv;cases hv
 obtain⟨a1,a,ha,ea⟩:=Ld4 n hA;obtain⟨b1,b,hb,eb⟩:=Ld4 n hB;obtain⟨v1,v,hv,ev⟩:=Ld4 n (lf9 h.inV h.sol);have sv:∀{w},w∈W9 A B->j7 w n=dot n w:=λ{w} hw=>by
  obtain⟨c1,c2,c3⟩:=(Ka2 w).1 (Qlb.1 h.inV w hw);exact (Ld5 ⟨c1.mono (by omega),c2.mono (by omega),c3.mono (by omega)⟩ hn).1
 have sA:∀{x},x∈A->j7 x n=dot n x/\Sm 3000000 (dot n x):=λ{x} hx=>Ld5 (h.sa x hx) hn
 have sB:∀{x},x∈B->j7 x n=dot n x/\Sm 3000000 (dot n x):=λ{x} hx=>Ld5 (h.sb x hx) hn
 have k1:=(sA ha).2;have k2:=(sB hb).2;rw[N9 (by rw[ea,eb,(sA ha).1,(sB hb).1];have:=k1.1;have:=k2.1;omega) (by rw[ea,eb,(sA ha).1,(sB hb).1];have:=k1.2;have:=k2.2;omega)]
 -- not less
 have up:=Ub4 h.inV h.sol (n:=n) (b:=mxL n (va5 (F0 (W9 A B)) (W9 A B))) (λw hw=>by
  have:=v1 w hw
  rw[sv (ib0 h.inV h.sol hw)] at this;exact this) (va6 a b) ((h.mem _).2 ⟨a,ha,b,hb,rfl⟩)
 rw[ib1] at up
 -- not more
 obtain⟨x,hx,y,hy,exy⟩:=(h.mem v).1 (ib0 h.inV h.sol hv);have lo1:=a1 x hx;have lo2:=b1 y hy;rw[(sA hx).1] at lo1;rw[(sB hy).1] at lo2;have e1:mxL n (va5 (F0 (W9 A B)) (W9 A B))=dot n x+dot n y:=by
  rw[ev,sv (ib0 h.inV h.sol hv),exy,ib1]
 rw[(sA ha).1] at ea;rw[(sB hb).1] at eb;omega
theorem tf5(u w x c:V3):N3 (va6 u c) (va6 w c) (va6 x c)=N3 u w x:=by
 simp only[N3,c8,C3,va6,V3.mk.injEq];refine⟨by grind,by grind,by grind⟩
noncomputable def tet:List V3:=[⟨0,0,0⟩,⟨1,0,0⟩,⟨0,1,0⟩,⟨0,0,1⟩]
noncomputable def We2:List V3:=[⟨0,0,0⟩,⟨2,0,0⟩,⟨1,0,0⟩,⟨3,0,0⟩,⟨0,1,0⟩,⟨2,1,0⟩,⟨0,0,1⟩,⟨2,0,1⟩]
noncomputable def mf0:List V3:=[⟨0,0,0⟩,⟨0,0,1⟩,⟨0,1,0⟩,⟨1,0,0⟩,⟨2,0,0⟩,⟨2,0,1⟩,⟨2,1,0⟩,⟨3,0,0⟩]
noncomputable def ae1:List V3:=[⟨0,0,0⟩,⟨0,0,1⟩,⟨0,1,0⟩,⟨2,0,1⟩,⟨2,1,0⟩,⟨3,0,0⟩]
theorem mf1:W9 tet [⟨0,0,0⟩,⟨2,0,0⟩]=We2:=by kernel_rfl
theorem mf2:lb4 We2=0:=by kernel_rfl
theorem mf3:dis We2=mf0:=by
 refine Pc6 _ _ (Re2 _) ?_ λv=>?_
 ·simp[mf0,LtV]
 ·rw[jc1];unfold We2 mf0;simp only[Qlc,Qlz,or_false]
  constructor<;>rintro (h | h | h | h | h | h | h | h)<;>simp[h]
theorem mf4:mf0.filter (kv (F0 We2))=ae1:=by kernel_rfl
theorem mf5:Ec2 tet [⟨0,0,0⟩,⟨2,0,0⟩]=(ae1,0):=by
 unfold Ec2;rw[if_neg (by simp[tet]),mf1]
 unfold Dc5 va5;rw[if_pos mf2,mf3,mf4]
theorem We3:Ec2 tet []=([],11):=by
 unfold Ec2;rw[if_neg (by simp[tet])]
 have h:W9 tet []=[]:=by kernel_rfl
 rw[h];unfold Dc5;rw[fc3,if_neg (by omega)]
theorem mf6:Ec2 tet [⟨24,0,0⟩]=([],3):=by
 unfold Ec2;rw[if_neg (by simp[tet])]
 have h:lb4 (W9 tet [⟨24,0,0⟩])=3:=by kernel_rfl
 unfold Dc5;rw[h,if_neg (by omega)]
theorem mf7:nd0 tet ⟨3,-1,2⟩=(3,true):=by kernel_rfl
theorem ag1:Pb3 [⟨⟨1,1,1⟩,3⟩,⟨⟨-1,0,0⟩,0⟩] ⟨1,0,2⟩ 1=([⟨⟨1,1,1⟩,6⟩,⟨⟨-1,0,0⟩,1⟩],true):=by kernel_rfl
theorem ag2:Pb3 [⟨⟨1,1,1⟩,3⟩,⟨⟨-1,0,0⟩,0⟩] ⟨1,0,2⟩ (-1)=([⟨⟨1,1,1⟩,0⟩,⟨⟨-1,0,0⟩,-1⟩],true):=by kernel_rfl
theorem ag3:Pb3 [⟨⟨1,1,1⟩,3⟩,⟨⟨-1,0,0⟩,0⟩] ⟨13,0,0⟩ 1=([],false):=by kernel_rfl
theorem ag4:Pb3 [⟨⟨1,1,1⟩,3⟩,⟨⟨-1,0,0⟩,0⟩] ⟨0,-1,0⟩ (-1)=([],false):=by kernel_rfl
theorem ag5:Pb3 [⟨⟨1,0,0⟩,2097152⟩] ⟨1,0,0⟩ 1=([],false):=by kernel_rfl
theorem ae2:Ia3=some (b true,[]):=by
 have ht:hb9=tet:=lf1;have lt:tet.length<=1000000:=by simp[tet]
 unfold Ia3;simp only[ht,lf2,l9,ta5,tf2,tf3,mf5,We3,mf6,Ad5 tet _ lt,Ad6 tet _ lt,mf7,Ad5 [] _ (by simp),Ad6 [] _ (by simp)]
 rw[Ld2 _ _ (by simp),Ld3 _ _ (by simp),Zd9 _ _ (by simp),ae0 _ _ (by simp),Ld2 _ ⟨13,0,0⟩ (by simp),Ld3 _ ⟨13,0,0⟩ (by simp),Zd9 _ ⟨0,-1,0⟩ (by simp),ae0 _ ⟨0,-1,0⟩ (by simp),Ld2 [⟨⟨1,0,0⟩,2097152⟩] _ (by simp),Ld3 [⟨⟨1,0,0⟩,2097152⟩] _ (by simp),ag1,ag2,ag3,ag4,ag5]
 simp only[Ne6 _ (show [(⟨⟨1,1,1⟩,6⟩:Pln),⟨⟨-1,0,0⟩,1⟩].length<=1000000000 by simp),Ne7 _ (show [(⟨⟨1,1,1⟩,6⟩:Pln),⟨⟨-1,0,0⟩,1⟩].length<=1000000000 by simp),Ne6 _ (show [(⟨⟨1,1,1⟩,0⟩:Pln),⟨⟨-1,0,0⟩,-1⟩].length<=1000000000 by simp),Ne7 _ (show [(⟨⟨1,1,1⟩,0⟩:Pln),⟨⟨-1,0,0⟩,-1⟩].length<=1000000000 by simp)]
 have e1:Ia1 ae1 [⟨0,0,0⟩,⟨0,0,1⟩,⟨0,1,0⟩,⟨2,0,1⟩,⟨2,1,0⟩,⟨3,0,0⟩]=true:=kf9 ae1 (by simp[ae1])
 have e2:Ia2 ae1 [⟨0,0,0⟩,⟨0,0,1⟩,⟨0,1,0⟩,⟨2,0,1⟩,⟨2,1,0⟩,⟨3,0,0⟩]=true:=lf0 ae1 (by simp[ae1])
 rw[e1,e2];rfl
theorem ke8:ab2=true:=by unfold ab2;rw[ae2];rfl
theorem ke9:ab3=true:=by unfold ab3;rw[ae2];rfl
set_option maxRecDepth 100000
structure ae5 where
 bs7:Bool
 (ag7 d7 c7 d8:Int)
 (f7 Be6 Be7 Be8 Be9 Ce0 Ce1 Ce2 Ce3:List V3)
 Yc8:Nat
 Qf3:Nat->List b7
 Qf4:Nat
 Qf5:Nat->List b7
structure ae6 where
 nf7:Int
structure ae7 where
 bs7:Bool
 (d7 c7 d8:Int)
structure ae8 where
 ag7:Int
 (f7 Be6 Be7 Be8 Be9 Ce0 Ce1 Ce2 Ce3:List V3)
theorem Of3(x:List Int):(aa5 x).1::(aa5 x).2=d9 x:=by
 have h:=Wd4 x;unfold aa5;cases hL:d9 x with
 |nil=>rw[hL] at h;simp at h
 |cons a l=>rfl
structure We4 where
 i8:List V3
 (d7 c7 d8:Int)
structure We5 where
 ph:Nat
 is6:Int
 ns5:Nat
 eh1:List (List b7)
structure mf8 where
 (alt ns0:Nat)
 eh0:List (List b7)
structure ae9 where
 is3:Int
 bs9:Bool
 Mc9:List V3
 (d7 c7 d8 B7 B9 C0:Int)
structure be0 where
 cg6:Nat
 cg7:Int
 eh2:List (List b7)
structure be1 where
 bs9:Bool
 (Mc9 Ef2:List V3)
 ag8:Nat
 (Of9 Pf0:Int)
 Qf6:List V3
 (bg3 d7 c7 d8 B7 B9 C0 sa9 ta0 ta1:Int)
 eh3:List (List b7)
structure be2 where
 bg4:Int
structure be3 where
 bs9:Bool
 ag8:Nat
 (Of9 d7 c7 d8 B7 B9 C0:Int)
 eh2:List (List b7)
structure be4 where
 (Mc9 Ef2:List V3)
 Pf0:Int
structure be5 where
 bs9:Bool
 nf8:List V3
 (Pf1 Pf2 bg5 d7 c7 d8:Int)
 (ag9 bg6:Nat)
 eh0:List (List b7)
 (B7 B9 C0:Int)
structure be6 where
 ph:Nat
 cg8:Bool
 bg7:Int
structure be7 where
 bs9:Bool
 Pf1:Int
structure be8 where
 ph:Nat
 nf8:List V3
 Pf2:Int
 ag9:Nat
 eh0:List (List b7)
structure Sm4(v:V3)(n:Int):Prop where
 x:Sm n v.x
 y:Sm n v.y
 z:Sm n v.z
theorem Ae9{S:List V3}(h:S.length<=48):(va5 (F0 S) S).length<=48:=by
 have h1:=Yc5 S;have h2:(va5 (F0 S) S).length<=(dis S).length:=Qlao _ _;omega
structure Md3 where
 bg8:List B3
 bs7:Bool
 tf8:List V3
 (d7 c7 d8:Int)
structure Md4 where
 ph:Nat
 r8:Int
 ns9:Nat
 eh1:List (List b7)
structure Md5 where
 bs7:Bool
 tf8:List V3
 ns9:Nat
 (Ef3 nf9:List V3)
 (Pf3 Pf4:Int)
 bg9:Nat
 cg0:Int
 eh0:List (List b7)
 (B7 B9 C0:Int)
structure Md6 where
 cg1:Int
structure Md7 where
 bs7:Bool
 ns9:Nat
 Pf3:Int
 eh0:List (List b7)
structure Md8 where
 (tf8 Ef3 nf9:List V3)
 Pf4:Int
theorem add_comm(a c:V3):j5 a c=j5 c a:=by
 unfold j5;rw[Int.add_comm a.x,Int.add_comm a.y,Int.add_comm a.z]
structure cg4(A B:List V3)(y n:V3) where
 V:List V3
 E:List V3
 M:List V3
 f1:Ec2 A B=(V,0)
 f2:Ec2 B A=(V,0)
 lV:V.length<=48
 lM:M.length<=48
 m:(nd0 V n).1=W ((nd0 A n).1+(nd0 B n).1)
 tA:(nd0 A n).2=true
 tB:(nd0 B n).2=true
 tV:(nd0 V n).2=true
 has:∀x∈A,∀y∈B,Ub2 V (j5 x y)=true/\Ub3 V (j5 x y)=true
 f3:Ec2 A [y]=(M,0)
 f4:Dc5 A=(E,0)
 lE:E.length<=48
 mv:E.map (λv=>j5 v y)=M
def bb0(e:V3)(k:Nat):V3:=⟨if k % 2>0 then W (0-e.x) else e.x,if k / 2 % 2>0 then W (0-e.y) else e.y,if k / 4>0 then W (0-e.z) else e.z⟩
def va2(e:V3):List V3:=(List.range 8).map (bb0 e)
theorem mf9(j:Nat)(hj:j<8):decide (Int.tmod (j:Int) 2>0)=decide (j % 2>0)/\decide (Int.tmod (W (Int.tdiv (j:Int) 2)) 2>0)=decide (j / 2 % 2>0)/\decide (W (Int.tdiv (j:Int) 4)>0)=decide (j / 4>0):=by
 have h:∀k:Nat,Int.tdiv (j:Int) (k:Int)=((j / k:Nat):Int):=λk=>Int.ofNat_tdiv j k |>.symm
 have h2:=h 2;have h4:=h 4;have t:∀m:Nat,Int.tmod (m:Int) 2=((m % 2:Nat):Int):=λm=>(Int.ofNat_tmod m 2).symm
 have e2:Int.tdiv (j:Int) 2=((j / 2:Nat):Int):=h2;have e4:Int.tdiv (j:Int) 4=((j / 4:Nat):Int):=h4;rw[e2,e4,N9 (by omega) (by omega),N9 (by omega) (by omega),t,t]
 refine⟨?_,?_,?_⟩<;>rw[decide_eq_decide]<;>omega
theorem Ld6(e:V3):∃t s,lp (Ka3 ⟨e.x,e.y,e.z⟩) ⟨0,0,0,[]⟩=(t,s)/\(t=2/\∃j:Int,s=⟨1,j,8,bL tV (va2 e)⟩):=by
 refine ea3 (step:=Ka3 ⟨e.x,e.y,e.z⟩) (mk:=λj (o:List V3)=>(⟨phV o,(j:Int),o.length,bL tV o⟩:u9)) 8 (λj o=>j<=8/\o=(List.range j).map (bb0 e)) (λt s=>t=2/\∃j:Int,s=⟨1,j,8,bL tV (va2 e)⟩) (by omega)
  (λj o hj hi=>?_) (λj o hj hi=>?_) 0 [] ⟨by omega,rfl⟩
 ·obtain⟨_,hi⟩:=hi;have hol:o.length=j:=by rw[hi,Qls,List.length_range]
  have hT:(List.range (j+1)).map (bb0 e)=o++[bb0 e j]:=by rw[List.range_succ,List.map_append,<- hi];rfl
  have hnext : ∀ {s : u9}, s = ⟨1, ((j + 1 : Nat) : Int), o.length + 1, bL tV (o ++ [bb0 e j])⟩ → Nx (.next s) (fun t => t = 2 ∧ ∃ j' : Int, (⟨phV o, (j : Int), o.length, bL tV o⟩ : u9) = ⟨1, j', 8, bL tV (va2 e)⟩)
    (λs=>∃o',s=(⟨phV o',((j+1:Nat):Int),o'.length,bL tV o'⟩:u9)/\(j+1<=8/\o'=(List.range (j+1)).map (bb0 e))):=λ{s} hs=>.nx ⟨o++[bb0 e j],by rw[hs,Id1,Qlo];rfl,by omega,hT.symm⟩
  have hn:W ((j:Int)+1)=((j+1:Nat):Int):=o8 hj (by omega)
  obtain⟨d1,d2,d3⟩:=mf9 j hj;cases o with
  |nil =>
   have hj0:j=0:=by rw[<- hol];rfl
   subst hj0;have e1:ea5 Stp.next Stp.exit Stp.fail ⟨e.x,e.y,e.z⟩ ⟨0,((0:Nat):Int),0,[]⟩=.next ⟨1,((0+1:Nat):Int),1,bL tV [bb0 e 0]⟩:=by
    simp only[ea5,hn,d1,d2,d3];rw[btD (show ((0:Nat):Int)<8 by omega)]
    rfl
   show Nx (ea5 Stp.next Stp.exit Stp.fail ⟨e.x,e.y,e.z⟩ ⟨0,((0:Nat):Int),0,[]⟩) _ _;rw[e1];exact hnext rfl
  |cons q o =>
   have rr:(Nat.beq (q::o).length (len (bL tV (q::o)))&&Nat.ble (((q::o).length+1)*24) room)=true:=qe4 rfl (by omega)
   have e0:bL tV (q::o++[bb0 e j])=app (bL tV (q::o)) [[i (bb0 e j).x,i (bb0 e j).y,i (bb0 e j).z]]:=(Of0 (q::o) (bb0 e j)).symm;have e1:ea6 Stp.next Stp.exit Stp.fail ⟨e.x,e.y,e.z⟩ ⟨phV (q::o),(j:Int),(q::o).length,bL tV (q::o)⟩=.next ⟨1,((j+1:Nat):Int),(q::o).length+1,bL tV (q::o++[bb0 e j])⟩:=by
    simp only[ea6,rr,hn,o9,d1,d2,d3];rw[btD (show (j:Int)<8 by omega),e0]
    generalize bL tV (q::o)=L;generalize (q::o).length=m;unfold bb0;by_cases c1:j % 2>0<;>by_cases c2:j / 2 % 2>0<;>by_cases c3:j / 4>0<;>simp only[c1,c2,c3,if_true,if_false,decide_true,decide_false,o9,Na3]
   show Nx (ea6 Stp.next Stp.exit Stp.fail _ _) _ _;rw[e1];exact hnext rfl
 ·obtain⟨h8,hi⟩:=hi;have hj8:j=8:=by omega
  subst hj8;have hO:o=va2 e:=hi;subst hO;exact⟨2,rfl,rfl,_,rfl⟩
theorem Ad7(e:V3):∃x,Pa8 e=some x/\(one (r1L tV)).rd x=some (va2 e):=by
 obtain⟨t,s,h,rfl,j,rfl⟩:=Ld6 e;unfold Pa8;simp only[h];exact⟨_,rfl,Af2 tV 27 (va2 e)⟩
theorem We6(e:V3):hb7 e=va2 e:=by obtain⟨x,h,k⟩:=Ad7 e;unfold hb7;rw[h];exact Ka1 _ k
theorem We7(e:V3):hb8 e=true:=by obtain⟨x,h,k⟩:=Ad7 e;unfold hb8;rw[h];exact Za9 _ k
noncomputable def Ld7(c:List Pln)(v:V3):Bool:=!c.any λp=>decide (j7 p.n v>p.b)
structure be9 where
 bs9:Bool
 (bg0 Kb9 oa1:List Pln)
 of0:Bool
 Qf7:List V3
 (cg2 d7 c7 d8 B7 B9 C0:Int)
structure ce0 where
 cg9:Bool
 cg3:Int
theorem Ka4{n w e:Int}(h:-e<=w/\w<=e):n*w<=(n.natAbs:Int)*e:=by
 rcases Int.natAbs_eq n with h'|h'
 ·have h1:0<=n:=by omega
  have:n*w<=n*e:=Qlt h.2 h1
  have e1:(n.natAbs:Int)=n:=by omega
  rw[e1];exact this
 ·have h1:0<=-n:=by omega
  have:-n*-w<=-n*e:=Qlt (by omega) h1
  have e1:(n.natAbs:Int)=-n:=by omega
  rw[Int.neg_mul_neg] at this;rw[e1];exact this
theorem se7{n w e:V3}(h:(-e.x<=w.x/\w.x<=e.x)/\(-e.y<=w.y/\w.y<=e.y)/\-e.z<=w.z/\w.z<=e.z):dot n w<=rch n e:=by
 have h1:=Ka4 (n:=n.x) h.1;have h2:=Ka4 (n:=n.y) h.2.1;have h3:=Ka4 (n:=n.z) h.2.2;unfold dot rch;omega
structure E3(e:V3):Prop where
 x1:0<=e.x
 x2:e.x<=3
 y1:0<=e.y
 y2:e.y<=3
 z1:0<=e.z
 z2:e.z<=3
theorem Ec3{e:V3}(he:E3 e){u:V3}(hu:u∈va2 e):(-e.x<=u.x/\u.x<=e.x)/\(-e.y<=u.y/\u.y<=e.y)/\-e.z<=u.z/\u.z<=e.z:=by
 obtain⟨h1,h2,h3,h4,h5,h6⟩:=he;unfold va2 at hu;obtain⟨k,hk,rfl⟩:=Qle.1 hu;unfold bb0;rw[N9 (by omega) (by omega),N9 (by omega) (by omega),N9 (by omega) (by omega)]
 refine⟨?_,?_,?_⟩<;>simp only<;>split<;>omega
theorem ae3{e:V3}(he:E3 e)(n:V3):∃u∈va2 e,dot n u=rch n e:=by
 obtain⟨h1,h2,h3,h4,h5,h6⟩:=he;have key:∀(s1 s2 s3:Bool),(⟨if s1 then -e.x else e.x,if s2 then -e.y else e.y,if s3 then -e.z else e.z⟩:V3)∈va2 e:=λs1 s2 s3=>by
  refine Qle.2 ⟨(if s1 then 1 else 0)+2*(if s2 then 1 else 0)+4*(if s3 then 1 else 0),?_,?_⟩
  ·rw[List.mem_range];cases s1<;>cases s2<;>cases s3<;>decide
  ·unfold bb0;rw[N9 (by omega) (by omega),N9 (by omega) (by omega),N9 (by omega) (by omega)]
   cases s1<;>cases s2<;>cases s3<;>simp
 refine⟨_,key (decide (n.x<0)) (decide (n.y<0)) (decide (n.z<0)),?_⟩;have m:∀a f:Int,a*(if decide (a<0)=true then -f else f)=(a.natAbs:Int)*f:=λa f=>by
  by_cases h:a<0
  ·rw[if_pos (decide_eq_true h),show (a.natAbs:Int)=-a by omega,Int.mul_neg,Int.neg_mul]
  ·rw[if_neg (by simpa using h),show (a.natAbs:Int)=a by omega]
 unfold dot rch
 simp only
 rw[m,m,m]
structure cg5(c:List Pln)(e v w:V3):Prop where
 hg:∀u,u=(if (decide (-e.x<=w.x/\w.x<=e.x)&&(decide (-e.y<=w.y/\w.y<=e.y)&&decide (-e.z<=w.z/\w.z<=e.z))) then true else false)->u=true->has c v=true->has (c.map (pq e 1)) (j5 v w)=true
 hb:((va2 e).all λu=>Ld7 c (j5 v u))=true->decide (-e.x<=w.x/\w.x<=e.x)=true->decide (-e.y<=w.y/\w.y<=e.y)=true->decide (-e.z<=w.z/\w.z<=e.z)=true->Ld7 c (j5 v w)=true
 hs:Ld7 (c.map (pq e (-1))) v=(va2 e).all λu=>Ld7 c (j5 v u)
def Fv:V3:=⟨10000,100,1⟩
theorem Df1{a c:V3}(ha:inV a=true)(hc:inV c=true)(h:dot Fv a=dot Fv c):a=c:=by
 obtain⟨⟨a1,a2⟩,⟨a3,a4⟩,a5,a6⟩:=(Ka2 a).1 ha;obtain⟨⟨c1,c2⟩,⟨c3,c4⟩,c5,c6⟩:=(Ka2 c).1 hc;simp only[dot,Fv] at h;exact Qlaq (by omega) (by omega) (by omega)
structure Crs(l:List V3)(p:Pln)(v:V3):Prop where
 h:∃u w,u∈l/\w∈l/\dot p.n u=p.b/\dot p.n w=p.b/\dot Fv w<dot Fv v/\dot Fv v<dot Fv u/\N3 v u w≠⟨0,0,0⟩
 on:dot p.n v=p.b
theorem nf3(u w x:V3):N3 u x w=neg (N3 u w x):=by simp only[N3,c8,C3,neg,V3.mk.injEq];refine⟨?_,?_,?_⟩<;>grind
theorem We8(u w x:V3):N3 w x u=N3 u w x:=by simp only[N3,c8,C3,V3.mk.injEq];refine⟨?_,?_,?_⟩<;>grind
theorem Of4{d:V3}(h:neg d=⟨0,0,0⟩):d=⟨0,0,0⟩:=by
 simp only[neg,V3.mk.injEq] at h;exact Qlaq (by show d.x=0;omega) (by show d.y=0;omega) (by show d.z=0;omega)
section
variable{l:List V3}(hl:l.all inV=true)
include hl
theorem We9{p:Pln}(hp:db9 l p):∃v∈l,Crs l p v:=by
 obtain⟨u,w,x,hu,hw,hx,h3,t1,t2,t3⟩:=hp.on;have hi:=Qlb.1 hl;obtain⟨n1,n3,n2⟩:=sf2 h3;have ne:∀{a c:V3},a∈l->c∈l->a≠c->dot Fv a<dot Fv c\/dot Fv c<dot Fv a:=λ{a c} ha hc h=>by
  have:dot Fv a≠dot Fv c:=λe=>h (Df1 (hi a ha) (hi c hc) e)
  omega
 have sw:∀{a c d:V3},N3 a c d≠⟨0,0,0⟩->N3 a d c≠⟨0,0,0⟩:=λ{a c d} h e=>h (by
  have e2:=nf3 a c d;rw[e] at e2;exact Of4 e2.symm)
 have m:∀{a c d:V3},a∈l->c∈l->d∈l->N3 c d a≠⟨0,0,0⟩->dot p.n a=p.b->dot p.n c=p.b->dot p.n d=p.b->dot Fv a<dot Fv c->dot Fv c<dot Fv d->∃v∈l,Crs l p v :=
  λ{a c d} ha hc hd hn ta tc td h1 h2=>⟨c,hc,⟨⟨d,a,hd,ha,td,ta,h1,h2,hn⟩,tc⟩⟩
 have r1:N3 w x u≠⟨0,0,0⟩:=by rw[We8];exact h3
 have r2:N3 x u w≠⟨0,0,0⟩:=by rw[We8];exact r1
 rcases ne hu hw n1 with a|a<;>rcases ne hw hx n2 with c|c<;>rcases ne hu hx n3 with d|d
 ·exact m hu hw hx r1 t1 t2 t3 a c
 ·omega
 ·exact m hu hx hw (sw r2) t1 t3 t2 d c
 ·exact m hx hu hw (h3) t3 t1 t2 d a |>.elim λv h=>⟨v,h⟩
 ·exact m hw hu hx (sw h3) t2 t1 t3 a d
 ·exact m hw hx hu r2 t2 t3 t1 c d
 ·omega
 ·exact m hx hw hu (sw r1) t3 t2 t1 c a
theorem nd1(hs:Sol l){p q:Pln}(hp:db9 l p)(hq:db9 l q){u w x:V3}(hu:u∈l)(hw:w∈l)(hx:x∈l)(h3:N3 u w x≠⟨0,0,0⟩)(p1:dot p.n u=p.b)(p2:dot p.n w=p.b)(p3:dot p.n x=p.b)(q1:dot q.n u=q.b)(q2:dot q.n w=q.b)(q3:dot q.n x=q.b):p=q:=by
 have hi:=Qlb.1 hl;have hT:=(xa7 (lb3 (hi u hu) (hi w hw) (hi x hx) h3)).2;have fl:∀{p:Pln},db9 l p->db9 l (ma0 p)->False:=λ{p} h h'=>by
  obtain⟨v,hv,hne⟩:=hs.off (Ab7 h.ok) p.b;have a:=h.hd v hv;have c:=h'.hd v hv;rw[Cc6] at c;have c:-dot p.n v<=-p.b:=c;omega
 rcases fc2 hT hp.ok p1 p2 p3 with e|e<;>rcases fc2 hT hq.ok q1 q2 q3 with e'|e'
 ·rw[e,e']
 ·rw[e',<- e] at hq;exact (fl hp hq).elim
 ·rw[e,<- e'] at hp;exact (fl hq hp).elim
 ·rw[e,e']
theorem Ld8(hs:Sol l){p:Pln}{v:V3}(hp:db9 l p)(hv:v∈l)(h:Crs l p v):∃d:V3,dot Fv d=0/\dot p.n d=0/\∀q,db9 l q->dot q.n v=q.b->q≠p->dot q.n d<0:=by
 obtain⟨⟨u,w,hu,hw,tu,tw,h1,h2,h3⟩,tv⟩:=h;generalize ha:dot Fv v-dot Fv w=a at *
 generalize hc:dot Fv u-dot Fv v=c at *
 have dd:∀n:V3,dot n ⟨c*(w.x-v.x)+a*(u.x-v.x),c*(w.y-v.y)+a*(u.y-v.y),c*(w.z-v.z)+a*(u.z-v.z)⟩=c*(dot n w-dot n v)+a*(dot n u-dot n v):=λn=>by simp only[dot];grind
 refine⟨⟨c*(w.x-v.x)+a*(u.x-v.x),c*(w.y-v.y)+a*(u.y-v.y),c*(w.z-v.z)+a*(u.z-v.z)⟩,?_,?_,λq hq tq hne=>?_⟩
 ·rw[dd,<- ha,<- hc];grind
 ·rw[dd,tu,tw,tv];simp
 ·rw[dd,tq];have g1:=hq.hd w hw;have g2:=hq.hd u hu;have e1:c*(dot q.n w-q.b)<=0:=Qly (by omega) (by omega)
  have e2:a*(dot q.n u-q.b)<=0:=Qly (by omega) (by omega)
  apply Qld;intro hno;have z1:=(Qlg.1 (show c*(dot q.n w-q.b)=0 by omega)).resolve_left (by omega)
  have z2:=(Qlg.1 (show a*(dot q.n u-q.b)=0 by omega)).resolve_left (by omega)
  exact hne (nd1 hl hs hq hp hv hu hw h3 tq (by omega) (by omega) tv tu tw)
end
theorem opp{x y A B:Int}(hA:A<0)(hB:B<0)(h:x*A+y*B=0):(0<x->y<0)/\(x<0->0<y)/\(x=0->y=0):=by
 refine⟨λhx=>?_,λhx=>?_,λhx=>?_⟩
 ·have:=Qlai hx hA
  have h2:0<y*B:=by omega
  rcases Int.lt_trichotomy y 0 with h3|h3|h3
  ·exact h3
  ·rw[h3] at h2;simp at h2
  ·have:=Qlai h3 hB;omega
 ·have:=Qlx hx hA
  have h2:y*B<0:=by omega
  rcases Int.lt_trichotomy y 0 with h3|h3|h3
  ·have:=Qlx h3 hB;omega
  ·rw[h3] at h2;simp at h2
  ·exact h3
 ·rw[hx] at h;exact (Qlg.1 (show y*B=0 by omega)).resolve_right (by omega)
theorem nf4{l:List V3}(hl:l.all inV=true)(hs:Sol l){p q r:Pln}{v:V3}(hv:v∈l)(hp:db9 l p)(hq:db9 l q)(hr:db9 l r)(cp:Crs l p v)(cq:Crs l q v)(cr:Crs l r v):p=q\/q=r\/p=r:=by
 apply Qld;intro hno;have n1:p≠q:=λe=>hno (.inl e)
 have n2:q≠r:=λe=>hno (.inr (.inl e))
 have n3:p≠r:=λe=>hno (.inr (.inr e))
 obtain⟨a,fa,pa,ha⟩:=Ld8 hl hs hp hv cp;obtain⟨c,fc,qc,hc⟩:=Ld8 hl hs hq hv cq;obtain⟨d,fd,rd,hd⟩:=Ld8 hl hs hr hv cr;have pc:=hc p hp cp.on n1;have pd:=hd p hp cp.on n3;have qa:=ha q hq cq.on (Ne.symm n1);have qd:=hd q hq cq.on n2;have ra:=ha r hr cr.on (Ne.symm n3);have rc:=hc r hr cr.on (Ne.symm n2)
 -- the of5 directions lie in a plane
 have hdet:dot a (c8 c d)=0:=by
  have e:dot Fv Fv*dot a (c8 c d)=dot Fv a*dot Fv (c8 c d)+dot Fv c*dot Fv (c8 d a)+dot Fv d*dot Fv (c8 a c):=by simp only[dot,c8,Fv];grind
  rw[fa,fc,fd] at e;have hF:dot Fv Fv=100010001:=by decide
  rw[hF] at e;omega
 have lin:∀n:V3,dot Fv (c8 c d)*dot n a+dot Fv (c8 d a)*dot n c+dot Fv (c8 a c)*dot n d=0:=λn=>by
  have e:dot Fv (c8 c d)*dot n a+dot Fv (c8 d a)*dot n c+dot Fv (c8 a c)*dot n d=dot a (c8 c d)*dot n Fv:=by simp only[dot,c8];grind
  rw[e,hdet,Qlh]
 have lp:=lin p.n;have lq:=lin q.n;have lr:=lin r.n;rw[pa] at lp;rw[qc] at lq;rw[rd] at lr;obtain⟨i1,i2,i3⟩:=opp pc pd (by omega:dot Fv (c8 d a)*dot p.n c+dot Fv (c8 a c)*dot p.n d=0)
 obtain⟨j1,j2,j3⟩:=opp qa qd (by omega:dot Fv (c8 c d)*dot q.n a+dot Fv (c8 a c)*dot q.n d=0)
 obtain⟨k1,k2,k3⟩:=opp ra rc (by omega:dot Fv (c8 c d)*dot r.n a+dot Fv (c8 d a)*dot r.n c=0)
 have z:dot Fv (c8 a c)=0:=by omega
 -- so two of them are alike
 have cr0:c8 a c=⟨0,0,0⟩:=by
  have e1:dot Fv Fv*(c8 a c).x=Fv.x*dot Fv (c8 a c)+dot Fv a*(c8 Fv c).x-dot Fv c*(c8 Fv a).x:=by simp only[dot,c8,Fv];grind
  have e2:dot Fv Fv*(c8 a c).y=Fv.y*dot Fv (c8 a c)+dot Fv a*(c8 Fv c).y-dot Fv c*(c8 Fv a).y:=by simp only[dot,c8,Fv];grind
  have e3:dot Fv Fv*(c8 a c).z=Fv.z*dot Fv (c8 a c)+dot Fv a*(c8 Fv c).z-dot Fv c*(c8 Fv a).z:=by simp only[dot,c8,Fv];grind
  rw[z,fa,fc] at e1 e2 e3;have hF:dot Fv Fv=100010001:=by decide
  rw[hF] at e1 e2 e3;exact Qlaq (by show (c8 a c).x=0;omega) (by show (c8 a c).y=0;omega) (by show (c8 a c).z=0;omega)
 have k:∀n:V3,dot p.n c*dot n a=dot p.n a*dot n c+dot n (c8 p.n (c8 a c)):=λn=>by simp only[dot,c8];grind
 have hk:=k q.n;rw[cr0,pa,qc] at hk;have e0:dot q.n (c8 p.n ⟨0,0,0⟩)=0:=by simp[dot,c8]
 rw[e0] at hk
 have:=Qlx pc qa
 omega
theorem Df2{α:Type}{l:List α}(hn:l.Nodup)(h:∀x∈l,∀y∈l,∀z∈l,x=y\/y=z\/x=z):l.length<=2:=by
 match l with
 |[]=>simp
 |[_]=>simp
 |[_,_]=>simp
 |x::y::z::l =>
  exfalso;simp only[List.nodup_cons,Qlc,not_or] at hn
  rcases h x (by simp) y (by simp) z (by simp) with e|e|e
  ·exact hn.1.1 e
  ·exact hn.2.1.1 e
  ·exact hn.1.2.1 e
theorem Ad8{α β:Type}{R:α->β->Prop}:∀(B:List β) (A:List α),A.Nodup->(∀x∈A,∃v∈B,R x v)->(∀v∈B,∀x∈A,∀y∈A,∀z∈A,R x v->R y v->R z v->x=y\/y=z\/x=z)->A.length<=2*B.length
 |[],A,_,h1,_=>by
  cases A with
  |nil=>simp
  |cons a A=>obtain⟨v,hv,_⟩:=h1 a (by simp);cases hv
 |b::B,A,hn,h1,h2=>by
  classical
  have hs:A.length=(A.filter λx=>decide (R x b)).length+(A.filter λx=>!decide (R x b)).length:=by
   rw[<- Qln,<- Qln]
   have:=Qlaa (λx=>decide (R x b)) (l:=A)
   rw[this];congr 1;apply List.countP_congr;intro x _;simp
  have a1:(A.filter λx=>decide (R x b)).length<=2:=Df2 (hn.filter _) λx hx y hy z hz=>by
   obtain⟨x1,x2⟩:=Qla.1 hx;obtain⟨y1,y2⟩:=Qla.1 hy;obtain⟨z1,z2⟩:=Qla.1 hz;exact h2 b (by simp) x x1 y y1 z z1 (of_decide_eq_true x2) (of_decide_eq_true y2) (of_decide_eq_true z2)
  have a2:=Ad8 (R:=R) B (A.filter λx=>!decide (R x b)) (hn.filter _) (λx hx=>by
   obtain⟨x1,x2⟩:=Qla.1 hx;have x2:¬ R x b:=by simpa using x2
   obtain⟨v,hv,hr⟩:=h1 x x1
   rcases Qlc.1 hv with rfl|hv
   ·exact absurd hr x2
   ·exact⟨v,hv,hr⟩) (λv hv x hx y hy z hz=>h2 v (by simp[hv]) x (Qla.1 hx).1 y (Qla.1 hy).1 z (Qla.1 hz).1)
  simp only[List.length_cons];omega
theorem Xe0{α:Type}(f:α->Int):∀l:List α,l≠[]->∃m∈l,∀x∈l,f m<=f x
 |[],h=>absurd rfl h
 |[a],_=>⟨a,by simp,λx hx=>by rw[Qlag.1 hx];exact Qlaf _⟩
 |a::c::l,_=>by
  obtain⟨m,hm,h⟩:=Xe0 f (c::l) (by simp)
  by_cases hle:f a<=f m
  ·refine⟨a,by simp,λx hx=>?_⟩
   rcases Qlc.1 hx with rfl|hx
   ·exact Qlaf _
   ·have:=h x hx;omega
  ·refine⟨m,Qlw _ hm,λx hx=>?_⟩
   rcases Qlc.1 hx with rfl|hx
   ·omega
   ·exact h x hx
theorem le0{l:List V3}(hl:l.all inV=true)(hf:nf0 l=true):(F0 l).length<=2*(l.length-2):=by
 classical
 have hs:=je1 hf;have hF:∀p∈F0 l,db9 l p:=λp hp=>(ea4 hl p).1 hp
 obtain⟨v0,hv0⟩:=hs.ne;have hne:l≠[]:=λe=>by rw[e] at hv0;cases hv0
 obtain⟨m,hm,hmin⟩:=Xe0 (dot Fv) l hne;obtain⟨M,hM,hmax⟩:=Xe0 (λv=>-dot Fv v) l hne
 by_cases h0:F0 l=[]
 ·rw[h0];simp
 obtain⟨p0,hp0⟩:=List.exists_mem_of_ne_nil _ h0;obtain⟨v1,hv1,c1⟩:=We9 hl (hF p0 hp0);obtain⟨u1,w1,hu1,hw1,_,_,q1,q2,_⟩:=c1.h;have hmM:m≠M:=λe=>by
  have a1:=hmin w1 hw1;have a2:=hmax u1 hu1;subst e;omega
 have hB:(l.filter λv=>decide (v≠m)&&decide (v≠M)).length+2<=l.length:=by
  have e:=Qlaa (λv=>decide (v≠m)&&decide (v≠M)) (l:=l)
  rw[Qln] at e;rw[Qln] at e
  have:([m,M]:List V3).length<=(l.filter λa=>decide (¬ (decide (a≠m)&&decide (a≠M))=true)).length :=
   List.Nodup.length_le_of_subset (by simp[hmM]) (λx hx=>by
    simp only[Qlc,Qlz,or_false] at hx;rw[Qla]
    rcases hx with rfl|rfl
    ·exact⟨hm,by simp⟩
    ·exact⟨hM,by simp⟩)
  simp only[List.length_cons,List.length_nil] at this;omega
 have:=Ad8 (R:=λp v=>Crs l p v) (l.filter λv=>decide (v≠m)&&decide (v≠M)) (F0 l) (ic8 (tc4 l))
  (λp hp=>by
   obtain⟨v,hv,c⟩:=We9 hl (hF p hp);refine⟨v,Qla.2 ⟨hv,?_⟩,c⟩;obtain⟨u,w,hu,hw,_,_,g1,g2,_⟩:=c.h;have a1:=hmin w hw;have a2:=hmax u hu;have k1:v≠m:=λe=>by subst e;omega
   have k2:v≠M:=λe=>by subst e;omega
   simp[k1,k2])
  (λv hv p hp q hq r hr=>nf4 hl hs (Qla.1 hv).1 (hF p hp) (hF q hq) (hF r hr))
 omega
theorem Wb8(x:Int):0<=x*x:=by
 by_cases h:0<=x
 ·exact Qlm h h
 ·have:=Qlm (show 0<=-x by omega) (show 0<=-x by omega)
  rwa [Int.neg_mul_neg] at this
theorem Be0(a c r s vy vz uy uz:Int)(h:a*vy+c*vz=a*uy+c*uz):(a*s-c*r)*((a*vz-c*vy)-(a*uz-c*uy))=(a*a+c*c)*((r*vy+s*vz)-(r*uy+s*uz)):=by
 have e:(a*a+c*c)*((r*vy+s*vz)-(r*uy+s*uz))-(a*s-c*r)*((a*vz-c*vy)-(a*uz-c*uy))=(a*r+c*s)*((a*vy+c*vz)-(a*uy+c*uz)):=by grind
 rw[h,Qlac,Qlal] at e;exact (Int.eq_of_sub_eq_zero e).symm
theorem Sa0{x:Int}(h:x*x=0):x=0:=(Qlg.1 h).elim id id
theorem se8{α β:Type}{R:α->β->Prop}{X:List α}{L:List β}[BEq β][LawfulBEq β](hX:X.Nodup)(h:∀q∈X,∃y∈L,R q y)(hi:∀q∈X,∀r∈X,∀y,R q y->R r y->q=r):X.length<=L.length:=by
 have h':∀q:{ q // q∈X },∃y,y∈L/\R q.1 y:=λq=>by
  obtain⟨y,h1,h2⟩:=h q.1 q.2;exact⟨y,h1,h2⟩
 obtain⟨f,hf⟩:=Classical.axiomOfChoice h';have hn:(X.attach.map f).Nodup:=by
  unfold List.Nodup;rw[List.pairwise_map];have hXa:X.attach.Nodup:=by
   unfold List.Nodup;have h0:(X.attach.map Subtype.val).Nodup:=by rw[List.attach_map_subtype_val];exact hX
   unfold List.Nodup at h0;rw[List.pairwise_map] at h0;exact h0.imp λhne e=>hne (by rw[e])
  refine List.Pairwise.imp (λ{a c} hne e=>hne (Subtype.ext (hi a.1 a.2 c.1 c.2 (f a) (hf a).2 (by rw[e];exact (hf c).2)))) hXa
 have:=List.Nodup.length_le_of_subset hn λy hy=>by
  obtain⟨q,_,rfl⟩:=Qle.1 hy;exact (hf q).1
 simpa using this
theorem Of5{S:List V3}{q:Pln}(hq:db9 S q)(hn:q.n.x=0):∃v∈S,dot q.n v=q.b/\∃u∈S,dot q.n u=q.b/\q.n.y*u.z-q.n.z*u.y<q.n.y*v.z-q.n.z*v.y:=by
 obtain⟨u,w,x,hu,hw,hx,h3,t1,t2,t3⟩:=hq.on;have key:∀{a c:V3},a∈S->c∈S->dot q.n a=q.b->dot q.n c=q.b->q.n.y*a.z-q.n.z*a.y≠q.n.y*c.z-q.n.z*c.y->∃v∈S,dot q.n v=q.b/\∃u∈S,dot q.n u=q.b/\q.n.y*u.z-q.n.z*u.y<q.n.y*v.z-q.n.z*v.y:=λ{a c} ha hc ea ec hne=>by
  rcases Qli hne with h|h
  ·exact⟨c,hc,ec,a,ha,ea,h⟩
  ·exact⟨a,ha,ea,c,hc,ec,h⟩
 by_cases k1:q.n.y*u.z-q.n.z*u.y=q.n.y*w.z-q.n.z*w.y
 ·by_cases k2:q.n.y*u.z-q.n.z*u.y=q.n.y*x.z-q.n.z*x.y
  ·exfalso;have hnz:=Ab7 hq.ok;simp only[dot,hn,Qlh,Qlr,Qlj] at t1 t2 t3;have sq:0<q.n.y*q.n.y+q.n.z*q.n.z:=by
    have h1:=Wb8 q.n.y;have h2:=Wb8 q.n.z
    rcases Qli (show q.n.y*q.n.y+q.n.z*q.n.z≠0 from λe=>hnz (by
     have e1:=Sa0 (show q.n.y*q.n.y=0 by omega)
     have e2:=Sa0 (show q.n.z*q.n.z=0 by omega)
     exact Qlaq (by show q.n.x=0;first | exact hn | exact e1) (by show q.n.y=0;first | exact hn | exact e1) e2)) with h | h
    ·omega
    ·exact h
   have same:∀c:V3,q.n.y*c.y+q.n.z*c.z=q.b->q.n.y*u.z-q.n.z*u.y=q.n.y*c.z-q.n.z*c.y->c.y=u.y/\c.z=u.z:=λc hc hk=>by
    have f1:(q.n.y*q.n.y+q.n.z*q.n.z)*(c.y-u.y)=0:=by grind
    have f2:(q.n.y*q.n.y+q.n.z*q.n.z)*(c.z-u.z)=0:=by grind
    have g1:=(Qlg.1 f1).resolve_left (by omega)
    have g2:=(Qlg.1 f2).resolve_left (by omega)
    omega
   obtain⟨a1,a2⟩:=same w t2 k1;obtain⟨c1,c2⟩:=same x t3 k2;refine h3 ?_;simp only[N3,c8,C3,a1,a2,c1,c2,Qlac,Qlal,Qlh]
  ·exact key hu hx t1 t3 k2
 ·exact key hu hw t1 t2 k1
theorem Df3 {S : List V3} (hl : S.all inV = true) (hs : Sol S) {q r : Pln} (hq : db9 S q) (hr : db9 S r) (hn : q.n.x = 0) (hm : r.n.x = 0) {v v' : V3} (hv : v ∈ S) (hv' : v' ∈ S) (e1 : v.y = v'.y) (e2 : v.z = v'.z)
  (tv:dot q.n v=q.b) (tv':dot r.n v'=r.b) (h1:∃u∈S,dot q.n u=q.b/\q.n.y*u.z-q.n.z*u.y<q.n.y*v.z-q.n.z*v.y) (h2:∃u∈S,dot r.n u=r.b/\r.n.y*u.z-r.n.z*u.y<r.n.y*v'.z-r.n.z*v'.y):q=r:=by
 obtain⟨u,hu,tu,lu⟩:=h1;obtain⟨u',hu',tu',lu'⟩:=h2;have c1:=hr.hd u hu;have c2:=hq.hd u' hu';obtain⟨a,w,x,ha,hw,hx,h3,t1,t2,t3⟩:=hq.on;simp only[dot,hn,hm,Qlh,Qlr,Qlj] at tv tv' tu tu' c1 c2 t1 t2 t3;rw[<- e1,<- e2] at tv' lu';have hnz:=Ab7 hq.ok;have sq:0<q.n.y*q.n.y+q.n.z*q.n.z:=by
  have h1:=Wb8 q.n.y;have h2:=Wb8 q.n.z
  rcases Qli (show q.n.y*q.n.y+q.n.z*q.n.z≠0 from λe=>hnz (by
   have e1:=Sa0 (show q.n.y*q.n.y=0 by omega)
   have e2:=Sa0 (show q.n.z*q.n.z=0 by omega)
   exact Qlaq (by show q.n.x=0;first | exact hn | exact e1) (by show q.n.y=0;first | exact hn | exact e1) e2)) with h | h
  ·omega
  ·exact h
 have sr:0<r.n.y*r.n.y+r.n.z*r.n.z:=by
  have h1:=Wb8 r.n.y;have h2:=Wb8 r.n.z
  rcases Qli (show r.n.y*r.n.y+r.n.z*r.n.z≠0 from λe=>Ab7 hr.ok (by
   have e1:=Sa0 (show r.n.y*r.n.y=0 by omega)
   have e2:=Sa0 (show r.n.z*r.n.z=0 by omega)
   exact Qlaq (by show r.n.x=0;first | exact hm | exact e1) (by show r.n.y=0;first | exact hm | exact e1) e2)) with h | h
  ·omega
  ·exact h
 -- the normals are parallel
 generalize hS:(q.n.y*v.z-q.n.z*v.y)-(q.n.y*u.z-q.n.z*u.y)=S1 at *
 generalize hT:(r.n.y*v.z-r.n.z*v.y)-(r.n.y*u'.z-r.n.z*u'.y)=T1 at *
 have p1:=Be0 q.n.y q.n.z r.n.y r.n.z v.y v.z u.y u.z (tv.trans tu.symm);rw[hS,tv'] at p1;have p2:=Be0 r.n.y r.n.z q.n.y q.n.z v.y v.z u'.y u'.z (tv'.trans tu'.symm);rw[hT,tv] at p2;have g1:0<=(q.n.y*r.n.z-q.n.z*r.n.y)*S1:=by rw[p1];exact Qlm (by omega) (by omega)
 have g2:0<=(r.n.y*q.n.z-r.n.z*q.n.y)*T1:=by rw[p2];exact Qlm (by omega) (by omega)
 have k1:0<=q.n.y*r.n.z-q.n.z*r.n.y:=by
  apply Qld;intro h
  have:=Qlp (show q.n.y*r.n.z-q.n.z*r.n.y<0 by omega) (show 0<S1 by omega)
  omega
 have k2:0<=r.n.y*q.n.z-r.n.z*q.n.y:=by
  apply Qld;intro h
  have:=Qlp (show r.n.y*q.n.z-r.n.z*q.n.y<0 by omega) (show 0<T1 by omega)
  omega
 have par:q.n.y*r.n.z=q.n.z*r.n.y:=by
  have m1:=Qlu r.n.y q.n.z;have m2:=Qlu r.n.z q.n.y;omega
 have on:∀c:V3,q.n.y*c.y+q.n.z*c.z=q.b->dot r.n c=r.b:=λc hc=>by
  have f:=Be0 q.n.y q.n.z r.n.y r.n.z v.y v.z c.y c.z (tv.trans hc.symm);rw[par,Qlac,Qlh,tv'] at f
  have:=(Qlg.1 f.symm).resolve_left (by omega)
  simp only[dot,hm,Qlh,Qlr,Qlj];omega
 have onq:∀c:V3,q.n.y*c.y+q.n.z*c.z=q.b->dot q.n c=q.b:=λc hc=>by
  simp only[dot,hn,Qlh,Qlr,Qlj];omega
 exact nd1 hl hs hq hr ha hw hx h3 (onq a t1) (onq w t2) (onq x t3) (on a t1) (on w t2) (on x t3)
theorem Df4{S:List V3}(hl:S.all inV=true)(hs:Sol S)(L:List (Int×Int))(hL:∀v∈S,(v.y,v.z)∈L):((F0 S).filter λq=>q.n.x==0).length<=L.length:=by
 refine se8 (R:=λq y=>∃v∈S,y=(v.y,v.z)/\dot q.n v=q.b/\∃u∈S,dot q.n u=q.b/\q.n.y*u.z-q.n.z*u.y<q.n.y*v.z-q.n.z*v.y) ((ic8 (tc4 S)).filter _) (λq hq=>?_) (λq hq r hr y h1 h2=>?_)
 ·obtain⟨h1,h2⟩:=Qla.1 hq;obtain⟨v,hv,tv,hu⟩:=Of5 ((ea4 hl q).1 h1) (beq_iff_eq.1 h2);exact⟨_,hL v hv,v,hv,rfl,tv,hu⟩
 ·obtain⟨a1,a2⟩:=Qla.1 hq;obtain⟨c1,c2⟩:=Qla.1 hr;obtain⟨v,hv,rfl,tv,hu⟩:=h1;obtain⟨v',hv',e,tv',hu'⟩:=h2;injection e with e1 e2;exact Df3 hl hs ((ea4 hl q).1 a1) ((ea4 hl r).1 c1) (beq_iff_eq.1 a2) (beq_iff_eq.1 c2) hv hv' e1 e2 tv tv' hu hu'
theorem Of6{S:List V3}{q:Pln}(hq:db9 S q)(hn:q.n.y=0):∃v∈S,dot q.n v=q.b/\∃u∈S,dot q.n u=q.b/\q.n.x*u.z-q.n.z*u.x<q.n.x*v.z-q.n.z*v.x:=by
 obtain⟨u,w,x,hu,hw,hx,h3,t1,t2,t3⟩:=hq.on;have key:∀{a c:V3},a∈S->c∈S->dot q.n a=q.b->dot q.n c=q.b->q.n.x*a.z-q.n.z*a.x≠q.n.x*c.z-q.n.z*c.x->∃v∈S,dot q.n v=q.b/\∃u∈S,dot q.n u=q.b/\q.n.x*u.z-q.n.z*u.x<q.n.x*v.z-q.n.z*v.x:=λ{a c} ha hc ea ec hne=>by
  rcases Qli hne with h|h
  ·exact⟨c,hc,ec,a,ha,ea,h⟩
  ·exact⟨a,ha,ea,c,hc,ec,h⟩
 by_cases k1:q.n.x*u.z-q.n.z*u.x=q.n.x*w.z-q.n.z*w.x
 ·by_cases k2:q.n.x*u.z-q.n.z*u.x=q.n.x*x.z-q.n.z*x.x
  ·exfalso;have hnz:=Ab7 hq.ok;simp only[dot,hn,Qlh,Qlr,Qlj] at t1 t2 t3;have sq:0<q.n.x*q.n.x+q.n.z*q.n.z:=by
    have h1:=Wb8 q.n.x;have h2:=Wb8 q.n.z
    rcases Qli (show q.n.x*q.n.x+q.n.z*q.n.z≠0 from λe=>hnz (by
     have e1:=Sa0 (show q.n.x*q.n.x=0 by omega)
     have e2:=Sa0 (show q.n.z*q.n.z=0 by omega)
     exact Qlaq (by show q.n.x=0;first | exact hn | exact e1) (by show q.n.y=0;first | exact hn | exact e1) e2)) with h | h
    ·omega
    ·exact h
   have same:∀c:V3,q.n.x*c.x+q.n.z*c.z=q.b->q.n.x*u.z-q.n.z*u.x=q.n.x*c.z-q.n.z*c.x->c.x=u.x/\c.z=u.z:=λc hc hk=>by
    have f1:(q.n.x*q.n.x+q.n.z*q.n.z)*(c.x-u.x)=0:=by grind
    have f2:(q.n.x*q.n.x+q.n.z*q.n.z)*(c.z-u.z)=0:=by grind
    have g1:=(Qlg.1 f1).resolve_left (by omega)
    have g2:=(Qlg.1 f2).resolve_left (by omega)
    omega
   obtain⟨a1,a2⟩:=same w t2 k1;obtain⟨c1,c2⟩:=same x t3 k2;refine h3 ?_;simp only[N3,c8,C3,a1,a2,c1,c2,Qlac,Qlal,Qlh]
  ·exact key hu hx t1 t3 k2
 ·exact key hu hw t1 t2 k1
theorem Df5 {S : List V3} (hl : S.all inV = true) (hs : Sol S) {q r : Pln} (hq : db9 S q) (hr : db9 S r) (hn : q.n.y = 0) (hm : r.n.y = 0) {v v' : V3} (hv : v ∈ S) (hv' : v' ∈ S) (e1 : v.x = v'.x) (e2 : v.z = v'.z)
  (tv:dot q.n v=q.b) (tv':dot r.n v'=r.b) (h1:∃u∈S,dot q.n u=q.b/\q.n.x*u.z-q.n.z*u.x<q.n.x*v.z-q.n.z*v.x) (h2:∃u∈S,dot r.n u=r.b/\r.n.x*u.z-r.n.z*u.x<r.n.x*v'.z-r.n.z*v'.x):q=r:=by
 obtain⟨u,hu,tu,lu⟩:=h1;obtain⟨u',hu',tu',lu'⟩:=h2;have c1:=hr.hd u hu;have c2:=hq.hd u' hu';obtain⟨a,w,x,ha,hw,hx,h3,t1,t2,t3⟩:=hq.on;simp only[dot,hn,hm,Qlh,Qlr,Qlj] at tv tv' tu tu' c1 c2 t1 t2 t3;rw[<- e1,<- e2] at tv' lu';have hnz:=Ab7 hq.ok;have sq:0<q.n.x*q.n.x+q.n.z*q.n.z:=by
  have h1:=Wb8 q.n.x;have h2:=Wb8 q.n.z
  rcases Qli (show q.n.x*q.n.x+q.n.z*q.n.z≠0 from λe=>hnz (by
   have e1:=Sa0 (show q.n.x*q.n.x=0 by omega)
   have e2:=Sa0 (show q.n.z*q.n.z=0 by omega)
   exact Qlaq (by show q.n.x=0;first | exact hn | exact e1) (by show q.n.y=0;first | exact hn | exact e1) e2)) with h | h
  ·omega
  ·exact h
 have sr:0<r.n.x*r.n.x+r.n.z*r.n.z:=by
  have h1:=Wb8 r.n.x;have h2:=Wb8 r.n.z
  rcases Qli (show r.n.x*r.n.x+r.n.z*r.n.z≠0 from λe=>Ab7 hr.ok (by
   have e1:=Sa0 (show r.n.x*r.n.x=0 by omega)
   have e2:=Sa0 (show r.n.z*r.n.z=0 by omega)
   exact Qlaq (by show r.n.x=0;first | exact hm | exact e1) (by show r.n.y=0;first | exact hm | exact e1) e2)) with h | h
  ·omega
  ·exact h
 -- the normals are parallel
 generalize hS:(q.n.x*v.z-q.n.z*v.x)-(q.n.x*u.z-q.n.z*u.x)=S1 at *
 generalize hT:(r.n.x*v.z-r.n.z*v.x)-(r.n.x*u'.z-r.n.z*u'.x)=T1 at *
 have p1:=Be0 q.n.x q.n.z r.n.x r.n.z v.x v.z u.x u.z (tv.trans tu.symm);rw[hS,tv'] at p1;have p2:=Be0 r.n.x r.n.z q.n.x q.n.z v.x v.z u'.x u'.z (tv'.trans tu'.symm);rw[hT,tv] at p2;have g1:0<=(q.n.x*r.n.z-q.n.z*r.n.x)*S1:=by rw[p1];exact Qlm (by omega) (by omega)
 have g2:0<=(r.n.x*q.n.z-r.n.z*q.n.x)*T1:=by rw[p2];exact Qlm (by omega) (by omega)
 have k1:0<=q.n.x*r.n.z-q.n.z*r.n.x:=by
  apply Qld;intro h
  have:=Qlp (show q.n.x*r.n.z-q.n.z*r.n.x<0 by omega) (show 0<S1 by omega)
  omega
 have k2:0<=r.n.x*q.n.z-r.n.z*q.n.x:=by
  apply Qld;intro h
  have:=Qlp (show r.n.x*q.n.z-r.n.z*q.n.x<0 by omega) (show 0<T1 by omega)
  omega
 have par:q.n.x*r.n.z=q.n.z*r.n.x:=by
  have m1:=Qlu r.n.x q.n.z;have m2:=Qlu r.n.z q.n.x;omega
 have on:∀c:V3,q.n.x*c.x+q.n.z*c.z=q.b->dot r.n c=r.b:=λc hc=>by
  have f:=Be0 q.n.x q.n.z r.n.x r.n.z v.x v.z c.x c.z (tv.trans hc.symm);rw[par,Qlac,Qlh,tv'] at f
  have:=(Qlg.1 f.symm).resolve_left (by omega)
  simp only[dot,hm,Qlh,Qlr,Qlj];omega
 have onq:∀c:V3,q.n.x*c.x+q.n.z*c.z=q.b->dot q.n c=q.b:=λc hc=>by
  simp only[dot,hn,Qlh,Qlr,Qlj];omega
 exact nd1 hl hs hq hr ha hw hx h3 (onq a t1) (onq w t2) (onq x t3) (on a t1) (on w t2) (on x t3)
theorem Df6{S:List V3}(hl:S.all inV=true)(hs:Sol S)(L:List (Int×Int))(hL:∀v∈S,(v.x,v.z)∈L):((F0 S).filter λq=>q.n.y==0).length<=L.length:=by
 refine se8 (R:=λq y=>∃v∈S,y=(v.x,v.z)/\dot q.n v=q.b/\∃u∈S,dot q.n u=q.b/\q.n.x*u.z-q.n.z*u.x<q.n.x*v.z-q.n.z*v.x) ((ic8 (tc4 S)).filter _) (λq hq=>?_) (λq hq r hr y h1 h2=>?_)
 ·obtain⟨h1,h2⟩:=Qla.1 hq;obtain⟨v,hv,tv,hu⟩:=Of6 ((ea4 hl q).1 h1) (beq_iff_eq.1 h2);exact⟨_,hL v hv,v,hv,rfl,tv,hu⟩
 ·obtain⟨a1,a2⟩:=Qla.1 hq;obtain⟨c1,c2⟩:=Qla.1 hr;obtain⟨v,hv,rfl,tv,hu⟩:=h1;obtain⟨v',hv',e,tv',hu'⟩:=h2;injection e with e1 e2;exact Df5 hl hs ((ea4 hl q).1 a1) ((ea4 hl r).1 c1) (beq_iff_eq.1 a2) (beq_iff_eq.1 c2) hv hv' e1 e2 tv tv' hu hu'
theorem le1{e:V3}(he:E3 e){u:V3}(hu:u∈va2 e):(u.x=e.x\/u.x=-e.x)/\(u.y=e.y\/u.y=-e.y)/\(u.z=e.z\/u.z=-e.z):=by
 obtain⟨h1,h2,h3,h4,h5,h6⟩:=he;unfold va2 at hu;obtain⟨k,hk,rfl⟩:=Qle.1 hu;unfold bb0;rw[N9 (by omega) (by omega),N9 (by omega) (by omega),N9 (by omega) (by omega)]
 refine⟨?_,?_,?_⟩<;>simp only<;>split<;>omega
theorem Ad9{p:Pln}(hp:okp p=true){v:V3}(hv:Sm 11 v.x/\Sm 11 v.y/\Sm 11 v.z):Sm 200000 (dot p.n v):=by
 unfold okp at hp;simp only[List.all_cons,List.all_nil,Bool.and_true,Qll,Za8] at hp;obtain⟨⟨⟨a1,a2⟩,⟨a3,a4⟩,a5,a6⟩,_⟩:=hp;obtain⟨⟨x1,x2⟩,⟨y1,y2⟩,z1,z2⟩:=hv;have m1:=Ka4 (n:=p.n.x) (w:=v.x) (e:=11) ⟨x1,x2⟩;have m2:=Ka4 (n:=p.n.y) (w:=v.y) (e:=11) ⟨y1,y2⟩;have m3:=Ka4 (n:=p.n.z) (w:=v.z) (e:=11) ⟨z1,z2⟩;have k1:=Ka4 (n:=p.n.x) (w:=-v.x) (e:=11) ⟨by omega,by omega⟩
 have k2:=Ka4 (n:=p.n.y) (w:=-v.y) (e:=11) ⟨by omega,by omega⟩
 have k3:=Ka4 (n:=p.n.z) (w:=-v.z) (e:=11) ⟨by omega,by omega⟩
 rw[Int.mul_neg] at k1 k2 k3;unfold dot
 constructor<;>omega
section
variable{x:List Int}{e:V3}(he:E3 e)(hz:e.z=0)
include he hz
theorem Yc7{α β:Type}(f:α->List β)(m:Nat)(hf:∀a,(f a).length=m):∀l:List α,(l.flatMap f).length=m*l.length
 |[]=>by simp
 |a::l=>by
  rw[List.flatMap_cons,Qlo,Yc7 f m hf l,hf,List.length_cons,Nat.mul_add];omega
theorem nd2:Sx (d9 x) (va2 e):=by
 have hM:=Ha9 x;have hl8:=hM.l8;have hc:=λ{u} (hu:u∈va2 e)=>Ec3 he hu
 obtain⟨h1,h2,h3,h4,h5,h6⟩:=he;have sa:∀v∈d9 x,Sm 1000 v.x/\Sm 1000 v.y/\Sm 1000 v.z:=λv hv=>by
  obtain⟨q1,q2,q3⟩:=hM.bd v hv;exact⟨q1.mono (by omega),q2.mono (by omega),q3.mono (by omega)⟩
 have sb:∀y∈va2 e,Sm 1000 y.x/\Sm 1000 y.y/\Sm 1000 y.z:=λy hy=>by
  obtain⟨⟨a1,a2⟩,⟨a3,a4⟩,a5,a6⟩:=hc hy;exact⟨⟨by omega,by omega⟩,⟨by omega,by omega⟩,⟨by omega,by omega⟩⟩
 refine⟨je1 hM.nf,⟨_,Qle.2 ⟨0,by decide,rfl⟩⟩,sa,sb,λv hv y hy=>?_,by omega,by unfold va2;rw[Qls];decide,?_⟩
 ·obtain⟨⟨a1,a2⟩,⟨a3,a4⟩,a5,a6⟩:=hM.bd v hv;obtain⟨⟨c1,c2⟩,⟨c3,c4⟩,c5,c6⟩:=hc hy;exact (Ka2 _).2 ⟨⟨by simp only[va6];omega,by simp only[va6];omega⟩,⟨by simp only[va6];omega,by simp only[va6];omega⟩,⟨by simp only[va6];omega,by simp only[va6];omega⟩⟩
 ·have h := List.Nodup.length_le_of_subset (ke3 (d9 x) (va2 e)) (l₂ := (d9 x).flatMap fun a => [va6 a ⟨e.x, e.y, 0⟩, va6 a ⟨-e.x, e.y, 0⟩, va6 a ⟨e.x, -e.y, 0⟩, va6 a ⟨-e.x, -e.y, 0⟩]) fun w hw => by
   obtain⟨a,ha,c,hc',rfl⟩:=(Zd2 _ _ _).1 hw;rw[ke7 (sa a ha) (sb c hc')];obtain⟨k1,k2,k3⟩:=le1 ⟨h1,h2,h3,h4,h5,h6⟩ hc';refine Qlam.2 ⟨a,ha,?_⟩;obtain⟨c1,c2,c3⟩:=c
   simp only at k1 k2 k3
   have k3:c3=0:=by omega
   subst k3
   rcases k1 with rfl|rfl<;>rcases k2 with rfl|rfl<;>simp
  have h':=Yc7 ⟨h1,h2,h3,h4,h5,h6⟩ hz (λa:V3=>[va6 a ⟨e.x,e.y,0⟩,va6 a ⟨-e.x,e.y,0⟩,va6 a ⟨e.x,-e.y,0⟩,va6 a ⟨-e.x,-e.y,0⟩]) 4 (λ_=>rfl) (d9 x)
  omega
theorem Xe1:B12 e:=by
 obtain⟨h1,h2,h3,h4,h5,h6⟩:=he;exact (jc4 e).1 (by unfold fc9;simp only[Qll,decide_eq_true_eq];omega)
theorem se9{p:Pln}(hp:p∈F0 (d9 x)):okq e 1 p=true:=by
 have hM:=Ha9 x;have hf:=(ea4 hM.inV p).1 hp;obtain⟨u,w,y,hu,hw,hy,h3,t1,t2,t3⟩:=hf.on;have h1:=Ad9 hf.ok (hM.bd u hu);have h2:=ke4 hf.ok (Xe1 he hz);rw[t1] at h1;obtain⟨k1,k2⟩:=h1;unfold okq;rw[hf.ok,Qlap,Za8]
 constructor<;>omega
theorem ae4{p:Pln}(hp:p∈F0 (d9 x)):pq e 1 p∈F0 (W9 (d9 x) (va2 e)):=by
 have hM:=Ha9 x;have hS:=nd2 (x:=x) he hz;have hf:=(ea4 hM.inV p).1 hp;have hk:=se9 he hz hp;obtain⟨c,hc,hr⟩:=ae3 he p.n;obtain⟨u,w,y,hu,hw,hy,h3,t1,t2,t3⟩:=hf.on;refine (ea4 hS.inV _).2 ⟨⟨λv hv=>?_,va6 u c,va6 w c,va6 y c,(hS.mem _).2 ⟨u,hu,c,hc,rfl⟩,(hS.mem _).2 ⟨w,hw,c,hc,rfl⟩,(hS.mem _).2 ⟨y,hy,c,hc,rfl⟩,by rw[tf5];exact h3,?_,?_,?_⟩,?_⟩
 ·obtain⟨a,ha,d,hd,rfl⟩:=(hS.mem v).1 hv;have g1:=hf.hd a ha;have g2:=se7 (n:=p.n) (Ec3 he hd);show dot p.n (va6 a d)<=p.b+1*rch p.n e;rw[ib1];omega
 ·show dot p.n (va6 u c)=p.b+1*rch p.n e;rw[ib1];omega
 ·show dot p.n (va6 w c)=p.b+1*rch p.n e;rw[ib1];omega
 ·show dot p.n (va6 y c)=p.b+1*rch p.n e;rw[ib1];omega
 ·unfold okq at hk;rw[Qll] at hk;exact (tf4 hk.1 _).trans hk.2
theorem Df7{q:Pln}(hq:q∈F0 (W9 (d9 x) (va2 e)))(nx:q.n.x≠0)(ny:q.n.y≠0):q∈(F0 (d9 x)).map (pq e 1):=by
 have hM:=Ha9 x;have hS:=nd2 (x:=x) he hz;have hf:=(ea4 hS.inV q).1 hq;obtain⟨c,hc,hr⟩:=ae3 he q.n;have best:∀a∈d9 x,∀d∈va2 e,dot q.n (va6 a d)=q.b->d=c:=λa ha d hd h=>by
  have g1:=hf.hd _ ((hS.mem _).2 ⟨a,ha,c,hc,rfl⟩);rw[ib1] at g1 h;have g2:=se7 (n:=q.n) (Ec3 he hd);have eq:dot q.n d=dot q.n c:=by omega
  obtain⟨d1,d2,d3⟩:=Ec3 he hd;obtain⟨c1,c2,c3⟩:=Ec3 he hc;have k1:=Ka4 (n:=q.n.x) d1;have k2:=Ka4 (n:=q.n.y) d2;have l1:=Ka4 (n:=q.n.x) c1;have l2:=Ka4 (n:=q.n.y) c2;have dz:d.z=0:=by omega
  have cz:c.z=0:=by omega
  have r1:dot q.n d=rch q.n e:=by omega
  unfold dot rch at r1 hr;rw[dz,hz] at r1;rw[cz,hz] at hr;simp only[Qlal,Qlj] at r1 hr;have e1:q.n.x*d.x=q.n.x*c.x:=by omega
  have e2:q.n.y*d.y=q.n.y*c.y:=by omega
  exact Qlaq (Qlaj nx e1) (Qlaj ny e2) (by omega)
 obtain⟨u,w,y,hu,hw,hy,h3,t1,t2,t3⟩:=hf.on;obtain⟨a1,ha1,d1,hd1,rfl⟩:=(hS.mem u).1 hu;obtain⟨a2,ha2,d2,hd2,rfl⟩:=(hS.mem w).1 hw;obtain⟨a3,ha3,d3,hd3,rfl⟩:=(hS.mem y).1 hy;have b1:=best a1 ha1 d1 hd1 t1;have b2:=best a2 ha2 d2 hd2 t2;have b3:=best a3 ha3 d3 hd3 t3;subst b1;subst b2;subst b3;rw[tf5] at h3;rw[ib1] at t1 t2 t3;have hsm:=Ad9 hf.ok (hM.bd a1 ha1);have hok:okp ⟨q.n,q.b-rch q.n e⟩=true:=by
  rw[tf4 hf.ok,Za8];obtain⟨s1,s2⟩:=hsm
  constructor<;>omega
 refine Qle.2 ⟨⟨q.n,q.b-rch q.n e⟩,(ea4 hM.inV _).2 ⟨⟨λv hv=>?_,a1,a2,a3,ha1,ha2,ha3,h3,?_,?_,?_⟩,hok⟩,?_⟩
 ·have:=hf.hd _ ((hS.mem _).2 ⟨v,hv,_,hc,rfl⟩)
  rw[ib1] at this;show dot q.n v<=q.b-rch q.n e;omega
 ·show dot q.n a1=q.b-rch q.n e;omega
 ·show dot q.n a2=q.b-rch q.n e;omega
 ·show dot q.n a3=q.b-rch q.n e;omega
 ·obtain⟨n,k⟩:=q;show (⟨n,k-rch n e+1*rch n e⟩:Pln)=⟨n,k⟩;congr 1;omega
theorem Xe2:(F0 (W9 (d9 x) (va2 e))).length<=44:=by
 have hM:=Ha9 x;have hl8:=hM.l8;have hS:=nd2 (x:=x) he hz;have h12:=le0 hM.inV hM.nf;have f1:=Yc7 he hz (λa:V3=>[(a.y+e.y,a.z),(a.y-e.y,a.z)]) 2 (λ_=>rfl) (d9 x)
 have f2:=Yc7 he hz (λa:V3=>[(a.x+e.x,a.z),(a.x-e.x,a.z)]) 2 (λ_=>rfl) (d9 x)
 have hX:=Df4 hS.inV hS.sol ((d9 x).flatMap λa=>[(a.y+e.y,a.z),(a.y-e.y,a.z)]) λv hv=>by
  obtain⟨a,ha,d,hd,rfl⟩:=(hS.mem v).1 hv;obtain⟨k1,k2,k3⟩:=le1 he hd;refine Qlam.2 ⟨a,ha,?_⟩;have k3:d.z=0:=by omega
  simp only[va6,k3,Qlj,Qlc,Qlz,or_false,Prod.mk.injEq,and_true];omega
 have hY:=Df6 hS.inV hS.sol ((d9 x).flatMap λa=>[(a.x+e.x,a.z),(a.x-e.x,a.z)]) λv hv=>by
  obtain⟨a,ha,d,hd,rfl⟩:=(hS.mem v).1 hv;obtain⟨k1,k2,k3⟩:=le1 he hd;refine Qlam.2 ⟨a,ha,?_⟩;have k3:d.z=0:=by omega
  simp only[va6,k3,Qlj,Qlc,Qlz,or_false,Prod.mk.injEq,and_true];omega
 have hall:=List.Nodup.length_le_of_subset (ic8 (tc4 (W9 (d9 x) (va2 e)))) (l₂:=(F0 (d9 x)).map (pq e 1)++(((F0 (W9 (d9 x) (va2 e))).filter λq=>q.n.x==0)++((F0 (W9 (d9 x) (va2 e))).filter λq=>q.n.y==0))) λq hq=>by
  by_cases nx:q.n.x=0
  ·exact Qlab _ (Qlad _ (Qla.2 ⟨hq,beq_iff_eq.2 nx⟩))
  ·by_cases ny:q.n.y=0
   ·exact Qlab _ (Qlab _ (Qla.2 ⟨hq,beq_iff_eq.2 ny⟩))
   ·exact Qlad _ (Df7 he hz hq nx ny)
 simp only[Qlo,Qls] at hall;omega
theorem le2:Id8 (F0 (W9 (d9 x) (va2 e))):=by
 have hS:=nd2 (x:=x) he hz;exact⟨by have:=Xe2 (x:=x) he hz;omega,λp hp=>(Id7 hp).ok,if1 hS.inV (sf4 hS.inV hS.sol)⟩
theorem le3:ye6 (F0 (W9 (d9 x) (va2 e))) ((F0 (d9 x)).map (pq e 1))=true:=by
 have hM:=Ha9 x;have hG:=le2 (x:=x) he hz;have h12:=le0 hM.inV hM.nf;have hl8:=hM.l8;have hsub:∀p∈(F0 (d9 x)).map (pq e 1),p∈F0 (W9 (d9 x) (va2 e)):=λp hp=>by
  obtain⟨q,hq,rfl⟩:=Qle.1 hp;exact ae4 he hz hq
 have hk:(chk ((F0 (d9 x)).map (pq e 1))==0)=true:=by
  rw[beq_iff_eq,jd4];exact⟨by rw[Qls];omega,λp hp=>hG.v p (hsub p hp)⟩
 obtain⟨h1,h2,_⟩:=Qe4 hG.ful;unfold ye6;rw[hG.ful,hk,Qlap,Qlap,Qlb];intro z hzz;rw[if0 (λp hp=>Kb4 (hG.v p (hsub p hp))) (gf3 z hzz)]
 rw[hG.pts] at hzz;exact λp hp=>(Pe6 h2 z hzz).toInr.h p (Qlad _ (hsub p hp))
end
noncomputable def ab4:List (Nat×Sum):=[(15,fc8),(25,pc7),(64,pc3),(65,pc5),(28,Mc0),(19,tc2),(57,mc9)]
theorem uc2:i4 prog G ab4:=⟨Wc0,md6,md0,md3,md1,Pc0,fd1,trivial⟩
structure ma3 where
 bs5:Bool
 (Kb9 Bb6:List Pln)
 (Ce4 Wc2:Int)
 Nc0:List Pln
 (nf7 d7 c7 d8 g7:Int)
structure L4 where
 of0:Bool
 td3:Int
noncomputable def qb1(p:ma3)(s:L4):St:=⟨ra 5 (b p.bs5::ra 8 (eL tP p.Kb9::.unk::.unk::.ptr 0 0 0 0::b s.of0::ra 62 (eL tP p.Bb6::i p.Ce4::i p.Wc2::ra 3 (eL tP p.Nc0::i p.nf7::i s.td3::ra 14 [])))),[⟨0,4,[[i p.d7,i p.c7,i p.d8,i p.g7]],true,false,0⟩]⟩
noncomputable def ca1{α:Type}(k:L4->α)(e:Nat->α)(z:α)(p:ma3)(s:L4):α:=(sl (decide (s.td3<p.nf7)) (sl (inB s.td3 (List.length p.Nc0)) (sl s.of0 (k ⟨true,W (s.td3+1)⟩) (k ⟨(p.d7==(gL tP p.Nc0 s.td3.toNat).n.x)&&((p.c7==(gL tP p.Nc0 s.td3.toNat).n.y)&&((p.d8==(gL tP p.Nc0 s.td3.toNat).n.z)&&((p.g7==(gL tP p.Nc0 s.td3.toNat).b)&&true))),W (s.td3+1)⟩)) z) (e 1))
noncomputable def V2(p:ma3)(s:L4):Stp L4:=ca1 .next .exit .fail p s
noncomputable def Ta2:Lo ma3 L4:=⟨En ab4,0,xf1,[1,1,1,1,1,1,1,1,1,1,0,1,4,4,1,1,0,4,1,1,0,1,4,4],[5,14,17,18,81,82,83,87,88,89],.p,[⟨ru2 5 (sBq::ru2 8 (sLq tP::sUq::sUq::sPq 0::sBq::ru2 62 (sLq tP::sIq::sIq::ru2 3 (sLq tP::sIq::sIq::ru2 14 [])))),[⟨0,4,true,some [kLq 4]⟩],λa H=>(⟨aBq a 5,aLq tP a 14,aLq tP a 81,aIq a 82,aIq a 83,aLq tP a 87,aIq a 88,hIq H 0 0 0,hIq H 0 0 1,hIq H 0 0 2,hIq H 0 0 3⟩,⟨aBq a 18,aIq a 89⟩)⟩],V2,[(some 2,λp s=>upq (qb1 p s) [(90,b (decide (s.td3<p.nf7)))])],qb1⟩
theorem lc2:Ta2.Ok:=Lo.ok [] (by kernel_rfl) .nil rfl (.cons (λa H=>by kernel_rfl) .nil) λp s=>(.of @ca1 (λF _ _ _ _ _=>by unfold ca1;(repeat' apply l5 (f:=F))<;>rfl) (by kernel_rfl))
structure ma4 where
 bs5:Bool
 Ce4:Int
structure L5 where
 (Kb9 Bb6:List Pln)
 Wc2:Int
noncomputable def qb2(p:ma4)(s:L5):St:=⟨ra 5 (b p.bs5::ra 8 (eL tP s.Kb9::ra 66 (eL tP s.Bb6::i p.Ce4::i s.Wc2::ra 20 []))),[]⟩
noncomputable def ca2{α:Type}(k:L5->α)(e:Nat->α)(z:α)(p:ma4)(s:L5):α:=let t1:=(lp (V2 (⟨p.bs5,rt tP s.Kb9,rt tP s.Bb6,p.Ce4,s.Wc2,rt tP s.Kb9,(↑(List.length s.Kb9):Int),(gL tP s.Bb6 s.Wc2.toNat).n.x,(gL tP s.Bb6 s.Wc2.toNat).n.y,(gL tP s.Bb6 s.Wc2.toNat).n.z,(gL tP s.Bb6 s.Wc2.toNat).b⟩:ma3)) (⟨false,0⟩:L4));(sl (decide (s.Wc2<p.Ce4)) (sl (inB s.Wc2 (List.length s.Bb6)) (sl ((cnE tP s.Kb9)&&((cnE tP s.Bb6)&&((cnE tP s.Kb9)&&true))) (sl (Nat.beq t1.1 1) (sl (!t1.2.of0) (e 1) (k ⟨rt tP s.Kb9,rt tP s.Bb6,W (s.Wc2+1)⟩)) z) z) z) (e 2))
noncomputable def V4(p:ma4)(s:L5):Stp L5:=ca2 .next .exit .fail p s
noncomputable def Ta3:Lo ma4 L5:=⟨En ab4,0,xf1,[1,1,1,1,1,1,1,1,1,1,0,1,4,4],[5,14,81,82,83],.s .p (.s .p (.s (.b (.s .p (.s .p (.s (.s .p (.b (.u Ta2.ls))) .p)))) .p)),[⟨ru2 5 (sBq::ru2 8 (sLq tP::ru2 66 (sLq tP::sIq::sIq::ru2 20 []))),[],λa H=>(⟨aBq a 5,aIq a 82⟩,⟨aLq tP a 14,aLq tP a 81,aIq a 83⟩)⟩],V4,[(none,λp s=>⟨[b false],[]⟩),(some 0,λp s=>upq (qb2 p s) [(84,b (decide (s.Wc2<p.Ce4)))])],qb2⟩
theorem lc3:Ta3.Ok:=Lo.ok [Ta2.pr] (by kernel_rfl) (.cons lc2 .nil) rfl (.cons (λa H=>by kernel_rfl) .nil) λp s=>(.of @ca2 (λF _ _ _ _ _=>by unfold ca2;(repeat' apply l5 (f:=F))<;>rfl) (by kernel_rfl))
noncomputable def va3(x:List Int)(y:B2):Option (b7×List b8):=let t1:=ab2;let t2:=(aa5 (rt tI x));let t3:=(ja6 (rt tV (t2.1::t2.2)));let t4:=(hb7 (⟨W (Int.tmod y.d0 4),W (Int.tmod y.d1 4),0⟩:V3));let t5:=(eb2 (rt tV (t2.1::t2.2)) (rt tV t4));let t6:=(Sa9 (rt tP t3.1) (⟨W (Int.tmod y.d0 4),W (Int.tmod y.d1 4),0⟩:V3));let t7:=(ja6 (rt tV t5.1));let t8:=(fb6 (rt tP t7.1) (rt tP t6.1));let t9:=(lp (V4 (⟨t1,(↑(List.length t6.1):Int)⟩:ma4)) (⟨rt tP t7.1,rt tP t6.1,0⟩:L5));(sl ab3 (sl (okE tI x) (sl (rb8 (rt tI x)) (sl (Nat.ble 1 (List.length (d9 (rt tI x)))) (sl (okE tV (t2.1::t2.2)) (sl (sa4 (rt tV (t2.1::t2.2))) (sl (hb8 (⟨W (Int.tmod y.d0 4),W (Int.tmod y.d1 4),0⟩:V3)) (sl (okE tV (t2.1::t2.2)) (sl (okE tV t4) (sl (eb3 (rt tV (t2.1::t2.2)) (rt tV t4)) (sl (t3.2 != 0) (some (b false,[])) (sl (t5.2 != 0) (some (b false,[])) (sl (okE tP t3.1) (sl (Ta0 (rt tP t3.1) (⟨W (Int.tmod y.d0 4),W (Int.tmod y.d1 4),0⟩:V3)) (sl (okE tV t5.1) (sl (sa4 (rt tV t5.1)) (sl (!t6.2) (some (b false,[])) (sl (t7.2 != 0) (some (b false,[])) (sl ((↑(List.length t6.1):Int) != (↑(List.length t3.1):Int)) (some (b false,[])) (sl (okE tP t7.1) (sl (okE tP t6.1) (sl (fb7 (rt tP t7.1) (rt tP t6.1)) (sl (!t8) (some (b false,[])) (sl ((cnE tP t7.1)&&((cnE tP t6.1)&&true)) (sl (Nat.beq t9.1 1) (some (b false,[])) (sl (Nat.beq t9.1 2) (some (b t1,[])) none)) none)) none) none) none)))) none) none) none) none))) none) none) none) none) none) none) none) none) none) none)
noncomputable def Ka5(x:List Int)(y:B2):Bool:=O9 (one r1B) (va3 x y)
noncomputable def Ka6(x:List Int)(y:B2):Bool:=okO (one r1B) (va3 x y)
noncomputable def Mc7:Sum:=va4 (ta7 tI) (W8 tM) (λx y=>.guard (Ka6 x y) (.ret ((one r1B).enc (Ka5 x y),[])))
theorem Ec4:f9 prog G 13 Mc7:=Rb0 (bd b13 uc2) (one r1B) (o:=va3) λx y=>Ua7 (.s .p (.s .p (.s .p (.s .p (.s .p (.s .p (.s .p (.s .p (.s .p (.s .p (.s (.s .p (.b (.u Ta3.ls))) .p))))))))))) [Ta3.pr] (by kernel_rfl) (.cons lc3 .nil) (by kernel_rfl)
def le4(p q:Pln):Bool:=p.n.x==q.n.x&&(p.n.y==q.n.y&&(p.n.z==q.n.z&&(p.b==q.b&&true)))
theorem Be1(p:Pln):le4 p p=true:=by simp[le4]
theorem Df8{α:Type}(t:Ty α)(l:List α)(f:α->Bool){j:Nat}(hj:j<l.length):(l.take (j+1)).any f=((l.take j).any f||f (gL t l j)):=by
 rw[List.take_add_one,Qlan hj,List.any_append];simp[gL,List.getD_eq_getElem?_getD,Qlan hj]
theorem Xe3(c0:Bool)(c0' c1 c:List Pln)(n j0:Int)(p:Pln)(hc:c.length<=1000):∃m,lp (V2 ⟨c0,c0',c1,n,j0,c,(c.length:Int),p.n.x,p.n.y,p.n.z,p.b⟩) ⟨false,0⟩=(1,⟨c.any λq=>le4 p q,m⟩):=by
 obtain⟨t,st,h,rfl,m,rfl⟩:=ea3 (step:=V2 ⟨c0,c0',c1,n,j0,c,(c.length:Int),p.n.x,p.n.y,p.n.z,p.b⟩) (mk:=λj (a:Bool)=>(⟨a,(j:Int)⟩:L4)) c.length
  (λj a=>j<=c.length/\a=(c.take j).any λq=>le4 p q) (λt st=>t=1/\∃m,st=⟨c.any λq=>le4 p q,m⟩) (by omega)
  (λj a hj hi=>by
   obtain⟨_,hi⟩:=hi;have hT:=Df8 tP c (λq=>le4 p q) hj
   rw[<- hi] at hT;simp only[V2,ca1,Int.toNat_natCast,o8 hj (show c.length<=4611686018427387904 by omega)]
   rw[btD (l6 hj),bt (f8 hj)];cases a with
   |true=>exact .nx ⟨true,rfl,by omega,by rw[hT];rfl⟩
   |false=>exact .nx ⟨_,rfl,by omega,by rw[hT];rfl⟩)
  (λj a hj hi=>by
   obtain⟨hje,hi⟩:=hi
   have:j=c.length:=by omega
   subst this;rw[Qlv] at hi;refine⟨1,?_,rfl,_,by rw[hi]⟩
   simp only[V2,ca1];rw[bfD (q8 (Qlf _))]) 0 false ⟨Qlq _,by simp⟩
 exact⟨m,h⟩
theorem Xe4(c0:Bool)(c g:List Pln)(hc:c.length<=1000)(hg:g.length<=1000)(hs:∀p∈g,p∈c):(lp (V4 ⟨c0,(g.length:Int)⟩) ⟨c,g,0⟩).1=2:=by
 have h:=Ic9 (step:=V4 ⟨c0,(g.length:Int)⟩) (mk:=λj=>(⟨c,g,(j:Int)⟩:L5)) (c:=λ_=>false) (u:=1) (fin:=2) tP g (by omega)
  (λj hj=>by
   have hm:gL tP g j∈g:=zb2 tP hj;obtain⟨m,h1⟩:=Xe3 c0 c g c (g.length:Int) (j:Int) (gL tP g j) hc;have ha:(c.any λq=>le4 (gL tP g j) q)=true:=List.any_eq_true.2 ⟨_,hs _ hm,Be1 _⟩
   rw[ha] at h1;simp only[V4,ca2,Int.toNat_natCast,l9,k9,h1,show Nat.beq 1 1=true from rfl,o8 hj (show g.length<=4611686018427387904 by omega),Bool.and_self,Bool.not_true,o9,Na3]
   rw[btD (l6 hj),bt (f8 hj)])
  (by simp only[V4,ca2];rw[bfD (q8 (Qlf _))]) 0 (Qlq _)
 rw[Qlae,show (g.any λ_=>false)=false by simp] at h
 exact h
theorem tm4{a:Int}(h:0<=a):0<=W (Int.tmod a 4)/\W (Int.tmod a 4)<=3:=by
 have h1:=Int.tmod_nonneg 4 h;have h2:=Int.tmod_lt_of_pos a (show (0:Int)<4 by omega)
 rw[N9 (by omega) (by omega)]
 omega
theorem Pc7(x:List Int)(y:B2)(hy:0<=y.d0/\0<=y.d1):va3 x y=some (b true,[]):=by
 have k0:=tm4 hy.1;have k1:=tm4 hy.2;have hM:=Ha9 x;have hp:=Wd4 x;have hb1:Nat.ble 1 (d9 x).length=true:=by rw[Nat.ble_eq];omega
 unfold va3;simp only[l9,ta5,k9,ke9,ke8,Oe2,hb1,Of3,We6,We7,tf2,tf3];generalize W (Int.tmod y.d0 4)=ex at *
 generalize W (Int.tmod y.d1 4)=ey at *
 have he:E3 ⟨ex,ey,0⟩:=⟨k0.1,k0.2,k1.1,k1.2,by simp only;omega,by simp only;omega⟩
 have hz:(⟨ex,ey,0⟩:V3).z=0:=rfl;have hS:=nd2 (x:=x) he hz;have hsum:=hS.sum;have h44:=Xe2 (x:=x) he hz;have hlies:=le3 (x:=x) he hz;have hsub:∀p∈(F0 (d9 x)).map (pq ⟨ex,ey,0⟩ 1),p∈F0 (W9 (d9 x) (va2 ⟨ex,ey,0⟩)):=λp hp=>by
  obtain⟨q,hq,rfl⟩:=Qle.1 hp;exact ae4 he hz hq
 have h12:=le0 hM.inV hM.nf;have hl8:=hM.l8;have hfa:ja6 (d9 x)=(F0 (d9 x),0):=by
  show Ta1 _=_;unfold Ta1;rw[if_pos (jc3 (by omega) hM.inV (je1 hM.nf))]
 have gfa:sa4 (d9 x)=true:=decide_eq_true ⟨by omega,by omega⟩
 have hpush:Pb3 (F0 (d9 x)) ⟨ex,ey,0⟩ 1=((F0 (d9 x)).map (pq ⟨ex,ey,0⟩ 1),true):=by
  unfold Pb3;rw[if_pos];rw[Qll];exact⟨(jc4 _).2 (Xe1 he hz),Qlb.2 λp hp=>se9 he hz hp⟩
 have hgr:=Ld2 (c:=F0 (d9 x)) (e:=⟨ex,ey,0⟩) (by omega)
 have ggr:=Ld3 (c:=F0 (d9 x)) (e:=⟨ex,ey,0⟩) (by omega)
 rw[hpush] at hgr;have hfs:ja6 (va5 (F0 (W9 (d9 x) (va2 ⟨ex,ey,0⟩))) (W9 (d9 x) (va2 ⟨ex,ey,0⟩)))=(F0 (W9 (d9 x) (va2 ⟨ex,ey,0⟩)),0):=by
  show Ta1 _=_;unfold Ta1;rw[if_pos (se5 hS.inV hS.sol hS.l),Ve8 hS.inV hS.sol]
 have hne:1<=(va5 (F0 (W9 (d9 x) (va2 ⟨ex,ey,0⟩))) (W9 (d9 x) (va2 ⟨ex,ey,0⟩))).length:=by
  obtain⟨v,hv⟩:=ke6 hS.inV hS.sol;exact List.length_pos_iff.2 λe=>by rw[e] at hv;cases hv
 have h48:=Ae9 hS.l;have gfs:sa4 (va5 (F0 (W9 (d9 x) (va2 ⟨ex,ey,0⟩))) (W9 (d9 x) (va2 ⟨ex,ey,0⟩)))=true:=decide_eq_true ⟨hne,by omega⟩
 have hml:((F0 (d9 x)).map (pq ⟨ex,ey,0⟩ 1)).length=(F0 (d9 x)).length:=Qls ..;have hwi:=Oe3 (a:=F0 (W9 (d9 x) (va2 ⟨ex,ey,0⟩))) (c:=(F0 (d9 x)).map (pq ⟨ex,ey,0⟩ 1)) (by omega) (by omega)
 have gwi:=Oe4 (a:=F0 (W9 (d9 x) (va2 ⟨ex,ey,0⟩))) (c:=(F0 (d9 x)).map (pq ⟨ex,ey,0⟩ 1)) (by omega) (by omega)
 rw[hlies] at hwi;have hlp:=Xe4 true (F0 (W9 (d9 x) (va2 ⟨ex,ey,0⟩))) ((F0 (d9 x)).map (pq ⟨ex,ey,0⟩ 1)) (by omega) (by omega) hsub
 rw[hml] at hlp;have z00:((0:Int) != 0)=false:=rfl;simp only[hsum,hfa,gfa,hgr,ggr,hfs,gfs,hwi,gwi,hlp,hml,z00,bne_self_eq_false,show Nat.beq 2 1=false from rfl,show Nat.beq 2 2=true from rfl,Bool.not_true,Bool.and_self,o9,Na3]
theorem Be2(x:List Int)(y:B2)(hy:0<=y.d0/\0<=y.d1):Ka5 x y=true:=by unfold Ka5;rw[Pc7 x y hy];rfl
theorem Be3(x:List Int)(y:B2)(hy:0<=y.d0/\0<=y.d1):Ka6 x y=true:=by unfold Ka6;rw[Pc7 x y hy];rfl
end Go.Ev.Ce
namespace Go.Ev.Ce
open Go Go.Ev Go.Ev.L Go.ChangeShapes Go.RowKit
theorem Xe5(g:Nat->Int)(h:∀c,c<2->0<=g c/\g c<=255):∃a,Rdg (W8 tM) (.agg (va1 .u8 2 g)) a/\(0<=a.d0/\0<=a.d1) :=
 ⟨⟨g 0,g 1⟩,⟨rfl,rfl⟩,(h 0 (by omega)).1,(h 1 (by omega)).1⟩
theorem Df9 {D : Type} {enc : TypeId × Value → D} {P : Program} {w : World} {base : Nat} {spare : Nat → Bool} {held : Bool} {ρ : Rho} {H : List b8} {F : Fz} {t e : TypeId} {d : Nat} {v : Value} {dd : DataW D} {pp : List MemPlace} {bs : Nat} {r : Reach}
  (ht:P.underlying t=some (.array 2 e)) (he:P.underlying e=some (.int .u8)) (hts:P.cellTypes P.depth t=some [e,e]) (hf:aa6 P d t=some (Ea6 .u8 2)) (hes:P.cellsOf t=2)
  (hok:Value.okWide P w r bs t v) (h:DataW.Trod enc P w base spare held t v dd pp):∃g:Nat->Int,(∀c,c<2->0<=g c/\g c<=255)/\ga2 ρ H F w (.agg (va1 .u8 2 g)) v:=by
 obtain⟨g,hv⟩:=kf7 (ρ:=ρ) (H:=H) (F:=F) (by simp[agT,ht]) hf hes hok h
 refine⟨g,λc hc=>?_,hv⟩
 obtain⟨vs,e0,hl,hr⟩:=Da4 (.val hv);subst e0;have hlen:vs.size=2:=by rw[<- hl];simp[va1]
 have hc':c<vs.size:=by omega
 have hg:(va1 .u8 2 g)[c]?=some (.v (.int .u8 (g c))):=by
  unfold va1;rw[List.getElem?_map,List.getElem?_range hc];rfl
 have hx:=ca4 (.val (.cell (hr c _ _ hg (Qlak hc'))));unfold Value.okWide at hok;rw[ht] at hok;obtain⟨cs,e1,hsz,ts,h1,h2,h3⟩:=hok;injection e1 with e1;subst e1;rw[hts] at h1;injection h1 with h1;subst h1;obtain⟨u,hu,hcell⟩:=h3 c _ (Qlak hc');rw[hx] at hcell;have hue:u=e:=by
  have:c=0\/c=1:=by omega
  rcases this with rfl|rfl<;>simpa using hu.symm
 subst hue;simp only[Cell.okWide,Cell.ok,he] at hcell
 have:=hcell.2
 simp only[IntKind.has,IntKind.min,IntKind.max,IntKind.bits,IntKind.signed] at this
 simp at this
 omega
end Go.Ev.Ce
