/- Own work: a part of the proof. -/
import Derived.Test.YtlccibobknidjaaEvIE3
import Derived.Shelf.SlSortCmp.WholeK
import Derived.Test.YtlccibobknidjaaEvSp3
import Derived.KernelRfl
set_option linter.unusedVariables false
set_option linter.unusedSimpArgs false
set_option linter.unnecessarySimpa false
set_option linter.unusedSectionVars false
namespace Go.Ev.Ce
open Go Go.Ev Go.Ev.L Go.Proofs
noncomputable def slP (l:List Pln):a7×List a8:=(.sl 0 0 l.length 0,[⟨42,4,bL tP l,true,false,0⟩])
theorem Oc7 (l:List Pln):(one (r1L tP)).rd (slP l)=some l:=by
 show Bool.rec (motive:=fun _=>Option (List Pln)) none (some (slR tP (bL tP l) 0 l.length)) (Bool.and true (okS tP (bL tP l) 0 l.length))=_
 rw[Kc1,Kc2]
 rfl
theorem od9 {α:Type} (t:Ty α) (l:List α):(one (r1L t)).rd (eL t l,[])=some l:=by
 show Bool.rec (motive:=fun _=>Option (List α)) none (some (rt t l)) (Bool.and (Nat.beq t.es t.es) (okE t l))=_
 rw[G6,la7,Nat.beq_refl]
 rfl
noncomputable def ws:List Pln:=[⟨⟨1,0,0⟩,24⟩,⟨⟨-1,0,0⟩,24⟩,⟨⟨0,1,0⟩,24⟩,⟨⟨0,-1,0⟩,24⟩,⟨⟨0,0,1⟩,24⟩,⟨⟨0,0,-1⟩,24⟩]
theorem dd1:Bds ws:=by
 intro p hp
 have:okp p=true:=by
  have h:ws.all okp=true:=by decide
  exact List.all_eq_true.1 h p hp
 exact Mb6 this
noncomputable def vc3 (lo hi:V3):List Pln:=[⟨⟨1,0,0⟩,hi.x⟩,⟨⟨-1,0,0⟩,W (0 - lo.x)⟩,⟨⟨0,1,0⟩,hi.y⟩,⟨⟨0,-1,0⟩,W (0 - lo.y)⟩,⟨⟨0,0,1⟩,hi.z⟩,⟨⟨0,0,-1⟩,W (0 - lo.z)⟩]
theorem Oc8 {l:List (List Pln)} {j:Nat} (h:j < l.length):gL (tLs tP) l j=l[j]:=qb8 (tLs tP) h
theorem Oc9 (ls:List (List Pln)) (hn:ls.length≤1000000000) (hl:ls.flatten.length≤1000000000):∃ m,lp (D6 ⟨ls,ls,(ls.length:Int)⟩) ⟨0,0⟩=(1,⟨(ls.flatten.length:Int),m⟩):=by
 have h:=Qa4 (step:=D6 ⟨ls,ls,(ls.length:Int)⟩) (mk:=fun j (n:Nat)=>(⟨(n:Int),(j:Int)⟩:o3)) (f:=fun l _ n=>n+l.length) (g:=fun l n=>n+l.flatten.length) (fin:=fun _=>1) ls
  (fun j n=>n+(ls.drop j).flatten.length=ls.flatten.length) hn (fun _=>rfl) (fun x r a=>by simp only[List.flatten_cons,List.length_append];omega)
  (fun j n hj hi=>by
   rw[List.drop_eq_getElem_cons hj,List.flatten_cons,List.length_append] at hi
   have hW:W ((n:Int)+(ls[j].length:Int))=((n+ls[j].length:Nat):Int):=by rw[Ca9 (by omega) (by omega)];omega
   refine⟨?_,by show n+ls[j].length+(ls.drop (j+1)).flatten.length=_;omega⟩
   simp only[D6,G2,Int.toNat_natCast,Oc8 hj,hW,N2 hj (by omega)]
   rw[btD (O5 hj),bt (q9 hj),bfD (by omega)])
  (fun j n hj _=>by
   simp only[D6,G2]
   rw[bfD (by omega)]) 0 0 (by simp)
 have h:=h.1
 rw[List.drop_zero,Nat.zero_add] at h
 exact⟨_,h⟩
theorem Pc0 {ls:List (List Pln)} (h:ls.flatten=[]) {j:Nat} (hj:j < ls.length):ls[j]=[]:=by
 rw[List.flatten_eq_nil_iff] at h
 exact h _ (List.getElem_mem hj)
theorem Zc3 (ls:List (List Pln)) (hn:ls.length≤1000000000) (hl:ls.flatten=[]):∃ s,lp (y8 ⟨ls,(ls.length:Int)⟩) ⟨0,0,0,[]⟩=(1,s):=by
 have h:=Qa4 (step:=y8 ⟨ls,(ls.length:Int)⟩) (mk:=fun j (_:Unit)=>(⟨0,(j:Int),0,[]⟩:i8)) (f:=fun _ _ n=>n) (g:=fun _ n=>n) (fin:=fun _=>1) ls
  (fun _ _=>True) hn (fun _=>rfl) (fun x r a=>rfl)
  (fun j n hj hi=>by
   refine⟨?_,trivial⟩
   show u5 Stp.next Stp.exit Stp.fail _ _=_
   simp only[u5,Int.toNat_natCast,Oc8 hj,Pc0 hl hj,N2 hj (by omega)]
   rw[btD (O5 hj),bt (q9 hj)]
   rfl)
  (fun j n hj _=>by
   show u5 Stp.next Stp.exit Stp.fail _ _=_
   simp only[u5]
   rw[bfD (by omega)]) 0 () trivial
 exact⟨_,h.1⟩
noncomputable def Oa2 (t:Nat) (d:List Pln):List (List a7):=app (bL tP d) (List.replicate (t - d.length) bc7)
theorem Pc1 (t:Nat) (d:List Pln) (h:d.length≤t):len (Oa2 t d)=t:=by
 unfold Oa2
 rw[C5,j8,List.length_append,← j8,ua0,List.length_replicate]
 omega
theorem Pc2 (t:Nat) (d l:List Pln) (h:d.length+l.length≤t):app (E9 (Oa2 t d) d.length) (app (bL tP l) (j9 (Oa2 t d) (d.length+len (bL tP l))))=Oa2 t (d++l):=by
 have hd:(bL tP d).length=d.length:=by rw[← j8,ua0]
 unfold Oa2
 rw[ua0,← bb0]
 simp only[C5,F4,F5]
 rw[List.take_left' hd,List.append_assoc]
 congr 2
 rw[List.drop_append,List.drop_eq_nil_of_le (by omega),List.nil_append,hd,List.drop_replicate,List.length_append]
 congr 1
 omega
theorem Pc3 (ls:List (List Pln)) (hn:ls.length≤1000000000):∃ m,lp (y8 ⟨ls,(ls.length:Int)⟩) ⟨1,0,0,List.replicate ls.flatten.length bc7⟩=(2,⟨1,m,ls.flatten.length,bL tP ls.flatten⟩):=by
 have h:=Qa4 (step:=y8 ⟨ls,(ls.length:Int)⟩) (mk:=fun j (d:List Pln)=>(⟨1,(j:Int),d.length,Oa2 ls.flatten.length d⟩:i8)) (f:=fun l _ d=>d++l) (g:=fun l d=>d++l.flatten) (fin:=fun _=>2) ls
  (fun j d=>d.length+(ls.drop j).flatten.length=ls.flatten.length) hn (fun _=>by simp) (fun x r a=>by simp)
  (fun j d hj hi=>by
   rw[List.drop_eq_getElem_cons hj,List.flatten_cons,List.length_append] at hi
   refine⟨?_,by show (d++ls[j]).length+(ls.drop (j+1)).flatten.length=_;rw[List.length_append];omega⟩
   show u6 Stp.next Stp.exit Stp.fail _ _=_
   simp only[u6,Int.toNat_natCast,Oc8 hj,N2 hj (by omega),ic9]
   rw[Pc2 _ _ _ (by omega),Pc1 _ _ (by omega),ua0,btD (O5 hj),bt (q9 hj),bt (by rw[Nat.ble_eq];omega),List.length_append])
  (fun j d hj _=>by
   show u6 Stp.next Stp.exit Stp.fail _ _=_
   simp only[u6]
   rw[bfD (by omega)]) 0 [] (by simp)
 have h:=h.1
 rw[List.drop_zero,List.nil_append] at h
 have e:Oa2 ls.flatten.length ls.flatten=bL tP ls.flatten:=by unfold Oa2;rw[Nat.sub_self,C5];simp
 rw[e] at h
 exact⟨_,h⟩
theorem dd2 (ls:List (List Pln)) (hn:ls.length≤1000000000) (hl:ls.flatten.length≤1000000000):Qa1 ls=some (slP (ls.flatten++ws)):=by
 have hc:X1 ls=if ls.flatten=[] then ⟨1,0,[]⟩ else ⟨2,ls.flatten.length,bL tP ls.flatten⟩:=by
  unfold X1 H4
  simp only[G6,K4]
  obtain⟨m,hm⟩:=Oc9 ls hn hl
  rw[hm]
  by_cases h0:ls.flatten=[]
  ·obtain⟨s,hs⟩:=Zc3 ls hn h0
   rw[if_pos h0,hs]
   rw[show (⟨(ls.flatten.length:Int),m⟩:o3)=⟨0,m⟩ by rw[h0];rfl]
   rfl
  ·obtain⟨m',hm'⟩:=Pc3 ls hn
   rw[if_neg h0]
   simp only[Int.toNat_natCast]
   rw[hm']
   have h1:0 < ls.flatten.length:=List.length_pos_iff.2 h0
   have e1:((ls.flatten.length:Int)==0)=false:=by rw[beq_eq_false_iff_ne];omega
   have e2:Bool.and (decide ((0:Int) < (ls.flatten.length:Int))) (Nat.ble (ls.flatten.length*32) room)=true:=by
    rw[Eb9 (by omega),decide_eq_true (by omega)]
    rfl
   rw[e1,e2]
   rfl
 unfold Qa1
 simp only[G6,la7,hc]
 by_cases h0:ls.flatten=[]
 ·rw[if_pos h0,h0];rfl
 ·rw[if_neg h0]
  generalize ls.flatten=c at *
  have e:∀ (d:List Pln) (p:Pln),app (bL tP d) [[i p.n.x,i p.n.y,i p.n.z,i p.b]]=bL tP (d++[p]):=fun d p=>bb0 tP d [p]
  have c1:=e c ⟨⟨1,0,0⟩,24⟩
  have c2:=e (c++[⟨⟨1,0,0⟩,24⟩]) ⟨⟨-1,0,0⟩,24⟩
  have c3:=e (c++[⟨⟨1,0,0⟩,24⟩]++[⟨⟨-1,0,0⟩,24⟩]) ⟨⟨0,1,0⟩,24⟩
  have c4:=e (c++[⟨⟨1,0,0⟩,24⟩]++[⟨⟨-1,0,0⟩,24⟩]++[⟨⟨0,1,0⟩,24⟩]) ⟨⟨0,-1,0⟩,24⟩
  have c5:=e (c++[⟨⟨1,0,0⟩,24⟩]++[⟨⟨-1,0,0⟩,24⟩]++[⟨⟨0,1,0⟩,24⟩]++[⟨⟨0,-1,0⟩,24⟩]) ⟨⟨0,0,1⟩,24⟩
  have c6:=e (c++[⟨⟨1,0,0⟩,24⟩]++[⟨⟨-1,0,0⟩,24⟩]++[⟨⟨0,1,0⟩,24⟩]++[⟨⟨0,-1,0⟩,24⟩]++[⟨⟨0,0,1⟩,24⟩]) ⟨⟨0,0,-1⟩,24⟩
  simp only at c1 c2 c3 c4 c5 c6
  simp only[c1,c2,c3,c4,c5,c6,ua0,List.length_append,List.length_singleton]
  have g:∀ n:Nat,n≤1000000010→(Nat.beq n n&&Nat.ble ((n+1)*32) room)=true:=fun n h=>by rw[Nat.beq_refl,Eb9 (by omega)];rfl
  rw[g _ (by omega),g _ (by omega),g _ (by omega),g _ (by omega),g _ (by omega),g _ (by omega)]
  show some (a7.sl 0 0 (c.length+1+1+1+1+1+1) 0,[(⟨42,4,bL tP _,true,false,0⟩:a8)])=_
  unfold slP
  rw[List.length_append]
  simp only[List.append_assoc]
  rfl
theorem pd0 (ls:List (List Pln)) (hn:ls.length≤1000000000) (hl:ls.flatten.length≤1000000000):ua7 ls=ls.flatten++ws:=by unfold ua7;rw[dd2 ls hn hl];exact Qa5 _ (Oc7 _)
theorem pd1 (ls:List (List Pln)) (hn:ls.length≤1000000000) (hl:ls.flatten.length≤1000000000):ua8 ls=true:=by unfold ua8;rw[dd2 ls hn hl];exact db0 _ (Oc7 _)
theorem dd3 (c:List Pln) (hc:c.length≤1000000000):ua7 [c]=c++ws:=by
 have:[c].flatten=c:=by simp
 rw[pd0 [c] (by simp) (by rw[this];exact hc),this]
theorem dd4 (c:List Pln) (hc:c.length≤1000000000):ua8 [c]=true:=by
 have:[c].flatten=c:=by simp
 exact pd1 [c] (by simp) (by rw[this];exact hc)
theorem Wb5 (ls:List (List Pln)) (hn:ls.length≤1000000000) (hl:∀ c∈ls,c.length≤1000000000):ra7 ls=some (b (ls.all fun c=>chk c==0),[]):=by
 have hv:∀ c∈ls,ra5 c=!(chk c==0)∧ra6 c=true:=fun c hc=>by
  have:ia6 c=some (b (!(chk c==0)),[]):=by
   unfold ia6
   simp only[G6,la7,zc4 c (hl c hc),zc5 c (hl c hc)]
   rfl
  unfold ra5 ra6
  rw[this]
  exact⟨rfl,rfl⟩
 have h:=Sa8 (step:=D1 ⟨ls,(ls.length:Int)⟩) (mk:=fun j=>(⟨(j:Int)⟩:l5)) (c:=fun c=>!(chk c==0)) (u:=1) (fin:=2) (tLs tP) ls hn
  (fun j hj=>by
   have hm:=hv _ (ac4 (tLs tP) hj)
   simp only[D1,A7,Int.toNat_natCast,G6,la7,hm.1,hm.2,N2 hj (by omega)]
   rw[btD (O5 hj),bt (q9 hj),na5,na5])
  (by simp only[D1,A7];rw[bfD (sa3 (Nat.lt_irrefl _))]) 0 (Nat.zero_le _)
 rw[List.drop_zero] at h
 have e:(ls.any fun c=>!(chk c==0))=!ls.all fun c=>chk c==0:=by rw[List.not_all_eq_any_not]
 unfold ra7 Q8 w6 X3 B7
 simp only[G6,K4]
 rw[show (⟨0⟩:l5)=⟨((0:Nat):Int)⟩ from rfl,h,e]
 cases ls.all fun c=>chk c==0 with
 | true=>rfl
 | false =>
  simp only[Bool.not_false,if_true,Nat.zero_add]
  show sl true (sl (Nat.beq 1 1) (some (b (!(decide (((ls.findIdx fun c=>!(chk c==0):Nat):Int)≥0))),[])) _) _=_
  rw[show decide (((ls.findIdx fun c=>!(chk c==0):Nat):Int)≥0)=true from decide_eq_true (by omega)]
  rfl
theorem mc7 (ls:List (List Pln)) (hn:ls.length≤1000000000) (hl:∀ c∈ls,c.length≤1000000000):S8 ls=ls.all fun c=>chk c==0:=by unfold S8;rw[Wb5 ls hn hl];rfl
theorem mc8 (ls:List (List Pln)) (hn:ls.length≤1000000000) (hl:∀ c∈ls,c.length≤1000000000):S9 ls=true:=by unfold S9;rw[Wb5 ls hn hl];rfl
theorem sb9 (c:List Pln) (hc:c.length≤1000000000):S8 [c]=(chk c==0):=by
 rw[mc7 [c] (by simp) (by simpa using hc)]
 simp
theorem tb0 (c:List Pln) (hc:c.length≤1000000000):S9 [c]=true:=mc8 [c] (by simp) (by simpa using hc)
noncomputable def pos (X:List Pt) (p:Pln):Bool:=X.any fun x=>decide (rm p x > 0)
noncomputable def ball (r:List Pln):Bool:=r.all (pos (cor r))
theorem Pc4 (p:Pln) (X:List Pt) (hX:X.length≤1000000000):Y7 ⟨p.n.x,p.n.y,p.n.z,p.b,X⟩=⟨1,!pos X p⟩:=by
 have hw:∀ x:Pt,ea0 ⟨x.px,x.py,x.pz,x.pw,p.n.x,p.n.y,p.n.z,p.b⟩=⟨decide (rm p x > 0)⟩:=fun x=>by
  show K6.mk (decide (da5 p x > 0))=_
  rw[bc9]
 have h:=Sa8 (step:=E3 ⟨X,(X.length:Int),p.n.x,p.n.y,p.n.z,p.b⟩) (mk:=fun j=>(⟨(j:Int)⟩:m8)) (c:=fun x=>decide (rm p x > 0)) (u:=1) (fin:=2) tX X hX
  (fun j hj=>by
   simp only[E3,D2,Int.toNat_natCast,hw,N2 hj (by omega)]
   rw[btD (O5 hj),bt (q9 hj)])
  (by simp only[E3,D2];rw[bfD (sa3 (Nat.lt_irrefl _))]) 0 (Nat.zero_le _)
 rw[List.drop_zero] at h
 unfold Y7 J7 T1 z6 Z6 D7 pos
 simp only[G6,K4]
 rw[show (⟨0⟩:m8)=⟨((0:Nat):Int)⟩ from rfl,h]
 cases X.any fun x=>decide (rm p x > 0) with
 | false=>rfl
 | true =>
  simp only[if_true,Nat.zero_add]
  show P4.mk 1 (!(decide (((X.findIdx fun x=>decide (rm p x > 0):Nat):Int)≥0)))=_
  rw[show decide (((X.findIdx fun x=>decide (rm p x > 0):Nat):Int)≥0)=true from decide_eq_true (by omega)]
theorem zc7 (r:List Pln) (hb:Bds r) (hr:r.length≤200):V6 r=some (b (ball r),[]):=by
 have hX:(cor r).length≤1000000000:=Nat.le_trans (zc6 r hb hr) (by omega)
 have h:=Sa8 (step:=D3 ⟨r,(r.length:Int)⟩) (mk:=fun j=>(⟨(j:Int),cor r⟩:l6)) (c:=fun p=>!pos (cor r) p) (u:=1) (fin:=2) tP r (by omega)
  (fun j hj=>by
   simp only[D3,A8,Int.toNat_natCast,G6,K4,Pc4 _ _ hX,N2 hj (by omega)]
   rw[btD (O5 hj),bt (q9 hj)]
   rfl)
  (by simp only[D3,A8];rw[bfD (sa3 (Nat.lt_irrefl _))]) 0 (Nat.zero_le _)
 rw[List.drop_zero] at h
 have e:(r.any fun p=>!pos (cor r) p)=!r.all (pos (cor r)):=by rw[List.not_all_eq_any_not]
 unfold V6 R2 w7 X5 B8 ball
 simp only[G6,K4,la7,Wb3 r hb hr,Wb4 r hb hr]
 rw[show (⟨0,cor r⟩:l6)=⟨((0:Nat):Int),cor r⟩ from rfl,h,e]
 cases r.all (pos (cor r)) with
 | true=>rfl
 | false =>
  simp only[Bool.not_false,if_true,Nat.zero_add]
  show some (b (!(decide (((r.findIdx fun p=>!pos (cor r) p:Nat):Int)≥0))),[])=_
  rw[show decide (((r.findIdx fun p=>!pos (cor r) p:Nat):Int)≥0)=true from decide_eq_true (by omega)]
  rfl
theorem Pc5 (r:List Pln) (hb:Bds r) (hr:r.length≤200):V7 r=ball r:=by unfold V7;rw[zc7 r hb hr];rfl
theorem Pc6 (r:List Pln) (hb:Bds r) (hr:r.length≤200):V8 r=true:=by unfold V8;rw[zc7 r hb hr];rfl
theorem gb2 {c:List Pln} (h:(chk c==0)=true):Bds (c++ws)∧(c++ws).length≤200:=by
 rw[beq_iff_eq,sb8] at h
 refine⟨fun p hp=>?_,by rw[List.length_append,show ws.length=6 from rfl];omega⟩
 rcases List.mem_append.1 hp with hp | hp
 ·exact Mb6 (h.2 p hp)
 ·exact dd1 p hp
noncomputable def pts (c:List Pln):List Pt:=if chk c==0 then cor (c++ws) else []
noncomputable def ful (c:List Pln):Bool:=(chk c==0)&&ball (c++ws)
theorem mc9 {c:List Pln} (hc:c.length≤1000000000):∃ x,na0 c=some x∧(one (r1L tX)).rd x=some (pts c):=by
 unfold na0 pts
 simp only[G6,la7,sb9 c hc,tb0 c hc,dd3 c hc,dd4 c hc]
 cases h:chk c==0 with
 | false=>exact⟨_,rfl,rfl⟩
 | true =>
  obtain⟨h1,h2⟩:=gb2 h
  rw[Wb3 _ h1 h2,Wb4 _ h1 h2]
  exact⟨_,rfl,od9 tX _⟩
theorem Qa6 {c:List Pln} (hc:c.length≤1000000000):O3 c=pts c:=by
 obtain⟨x,h1,h2⟩:=mc9 hc
 unfold O3;rw[h1];exact Qa5 _ h2
theorem Qa7 {c:List Pln} (hc:c.length≤1000000000):O4 c=true:=by
 obtain⟨x,h1,h2⟩:=mc9 hc
 unfold O4;rw[h1];exact db0 _ h2
theorem zc8 {c:List Pln} (hc:c.length≤1000000000):ya1 c=some (b (ful c),[]):=by
 unfold ya1 ful
 simp only[G6,la7,sb9 c hc,tb0 c hc,dd3 c hc,dd4 c hc]
 cases h:chk c==0 with
 | false=>rfl
 | true =>
  obtain⟨h1,h2⟩:=gb2 h
  rw[Pc5 _ h1 h2,Pc6 _ h1 h2]
  rfl
theorem Nb1 {c:List Pln} (hc:c.length≤1000000000):da6 c=ful c:=by unfold da6;rw[zc8 hc];rfl
theorem Nb2 {c:List Pln} (hc:c.length≤1000000000):da7 c=true:=by unfold da7;rw[zc8 hc];rfl
end Go.Ev.Ce
section
namespace Go.Ev.Ce
open Go Go.Ev Go.Ev.L Go.Proofs
set_option maxRecDepth 100000
structure Hc9 where
 is1:Int
 Xb3:List Int
 o8:Int
structure Ic0 where
 alt:Nat
 is0:Int
 o8:Int
structure ld8 where
 is1:Int
 Xb3:List Int
 o8:Int
structure ld9 where
 alt:Nat
 Ca0:Int
 Ca1:Int
 Ca2:Int
 Xb3:List Int
 o8:Int
end Go.Ev.Ce
end
section
namespace Go.Ev.Ce
open Go Go.Ev Go.Ev.L Go.Proofs
set_option maxRecDepth 100000
noncomputable def La9:List (Nat×Sum):=[]
theorem nb1:o9 prog G La9:=trivial
structure V9 where
 G4:List Pt
 Pb0:List Pt
structure C6 where
 is5:Int
noncomputable def ib2 (p:V9) (s:C6):St:=⟨((eL tX p.G4)::((eL tX p.Pb0)::(ra 3 ((i s.is5)::(ra 20 []))))),[]⟩
noncomputable def P7 {α:Type} (k:C6→α) (e:Nat→α) (z:α) (p:V9) (s:C6):α:=(sl (decide (s.is5 < (↑(List.length p.G4):Int))) (sl (inB s.is5 (List.length p.G4)) (sl (inB s.is5 (List.length p.Pb0)) (sl (!(((gL tX p.G4 s.is5.toNat).px==(gL tX p.Pb0 s.is5.toNat).px)&&(((gL tX p.G4 s.is5.toNat).py==(gL tX p.Pb0 s.is5.toNat).py)&&(((gL tX p.G4 s.is5.toNat).pz==(gL tX p.Pb0 s.is5.toNat).pz)&&(((gL tX p.G4 s.is5.toNat).pw==(gL tX p.Pb0 s.is5.toNat).pw)&&true))))) (e 1) (k ⟨(W (s.is5+1))⟩)) z) z) (e 2))
noncomputable def R8 (p:V9) (s:C6):Stp C6:=P7 .next .exit .fail p s
noncomputable def oa7:Lo V9 C6:=⟨En La9,0,nd8,[1,1,0,1,4,4],[0,1,5],.p,[⟨((.s (.c 4 (nL tX)))::((.s (.c 4 (nL tX)))::(ru2 3 ((.s (.o (.int .i64)))::(ru2 20 []))))),[],fun a H=>(⟨(rL tX (slT a 0)),(rL tX (slT a 1))⟩,⟨(toI (slT a 5))⟩)⟩],R8,[(none,fun p s=>⟨[(b false)],[]⟩),(some 0,fun p s=>⟨((eL tX p.G4)::((eL tX p.Pb0)::(ra 3 ((i s.is5)::(ra 5 ((i s.is5)::((eL tX p.G4)::((i (↑(List.length p.G4):Int))::((b (decide (s.is5 < (↑(List.length p.G4):Int))))::(ra 11 [])))))))))),[]⟩)],ib2⟩
theorem ib3:oa7.Ok:=Lo.ok [] (by kernel_rfl) .nil rfl (.cons (fun a H=>by kernel_rfl) .nil) fun p s=>(.of @P7 (fun F _ _ _ _ _=>by unfold P7;(repeat' apply C7 (f:=F))<;>rfl) (by kernel_rfl))
noncomputable def ca6 (x:List Pt) (y:List Pt):Option (a7×List a8):=let t1:=(lp (R8 (⟨(rt tX x),(rt tX y)⟩:V9)) (⟨0⟩:C6));(sl ((↑(List.length x):Int) != (↑(List.length y):Int)) (some ((b false),[])) (sl ((cnE tX x)&&((cnE tX y)&&true)) (sl (Nat.beq t1.1 1) (some ((b false),[])) (sl (Nat.beq t1.1 2) (some ((b true),[])) none)) none))
noncomputable def ca7 (x:List Pt) (y:List Pt):Bool:=la8 (one r1B) (ca6 x y)
noncomputable def ca8 (x:List Pt) (y:List Pt):Bool:=okO (one r1B) (ca6 x y)
noncomputable def Qa8:Sum:=wa6 (Fa8 tX) (Fa8 tX) (fun x y=>.guard (ca8 x y) (.ret ((one r1B).enc (ca7 x y),[])))
theorem tb1:j7 prog G 22 Qa8:=Jb7 (bd b22 nb1) (one r1B) (o:=ca6) fun x y=>hb8 (.s .p (.s .p (.s (.s .p (.b (.u oa7.ls))) .p))) [oa7.pr] (by kernel_rfl) (.cons ib3 .nil) (by kernel_rfl)
noncomputable def Bb1:List (Nat×Sum):=[]
theorem cc6:o9 prog G Bb1:=trivial
structure sa4 where
 v6:List Pln
 Pb1:List Pln
structure T5 where
 is5:Int
noncomputable def Rb5 (p:sa4) (s:T5):St:=⟨((eL tP p.v6)::((eL tP p.Pb1)::(ra 3 ((i s.is5)::(ra 20 []))))),[]⟩
noncomputable def ja1 {α:Type} (k:T5→α) (e:Nat→α) (z:α) (p:sa4) (s:T5):α:=(sl (decide (s.is5 < (↑(List.length p.v6):Int))) (sl (inB s.is5 (List.length p.v6)) (sl (inB s.is5 (List.length p.Pb1)) (sl (!(((gL tP p.v6 s.is5.toNat).n.x==(gL tP p.Pb1 s.is5.toNat).n.x)&&(((gL tP p.v6 s.is5.toNat).n.y==(gL tP p.Pb1 s.is5.toNat).n.y)&&(((gL tP p.v6 s.is5.toNat).n.z==(gL tP p.Pb1 s.is5.toNat).n.z)&&(((gL tP p.v6 s.is5.toNat).b==(gL tP p.Pb1 s.is5.toNat).b)&&true))))) (e 1) (k ⟨(W (s.is5+1))⟩)) z) z) (e 2))
noncomputable def na1 (p:sa4) (s:T5):Stp T5:=ja1 .next .exit .fail p s
noncomputable def Ua6:Lo sa4 T5:=⟨En Bb1,0,nd9,[1,1,0,1,4,4],[0,1,5],.p,[⟨((.s (.c 4 (nL tP)))::((.s (.c 4 (nL tP)))::(ru2 3 ((.s (.o (.int .i64)))::(ru2 20 []))))),[],fun a H=>(⟨(rL tP (slT a 0)),(rL tP (slT a 1))⟩,⟨(toI (slT a 5))⟩)⟩],na1,[(none,fun p s=>⟨[(b false)],[]⟩),(some 0,fun p s=>⟨((eL tP p.v6)::((eL tP p.Pb1)::(ra 3 ((i s.is5)::(ra 5 ((i s.is5)::((eL tP p.v6)::((i (↑(List.length p.v6):Int))::((b (decide (s.is5 < (↑(List.length p.v6):Int))))::(ra 11 [])))))))))),[]⟩)],Rb5⟩
theorem Rb6:Ua6.Ok:=Lo.ok [] (by kernel_rfl) .nil rfl (.cons (fun a H=>by kernel_rfl) .nil) fun p s=>(.of @ja1 (fun F _ _ _ _ _=>by unfold ja1;(repeat' apply C7 (f:=F))<;>rfl) (by kernel_rfl))
noncomputable def Ha2 (x:List Pln) (y:List Pln):Option (a7×List a8):=let t1:=(lp (na1 (⟨(rt tP x),(rt tP y)⟩:sa4)) (⟨0⟩:T5));(sl ((↑(List.length x):Int) != (↑(List.length y):Int)) (some ((b false),[])) (sl ((cnE tP x)&&((cnE tP y)&&true)) (sl (Nat.beq t1.1 1) (some ((b false),[])) (sl (Nat.beq t1.1 2) (some ((b true),[])) none)) none))
noncomputable def Ua7 (x:List Pln) (y:List Pln):Bool:=la8 (one r1B) (Ha2 x y)
noncomputable def Ua8 (x:List Pln) (y:List Pln):Bool:=okO (one r1B) (Ha2 x y)
noncomputable def Nb3:Sum:=wa6 (Fa8 tP) (Fa8 tP) (fun x y=>.guard (Ua8 x y) (.ret ((one r1B).enc (Ua7 x y),[])))
theorem nc0:j7 prog G 23 Nb3:=Jb7 (bd b23 cc6) (one r1B) (o:=Ha2) fun x y=>hb8 (.s .p (.s .p (.s (.s .p (.b (.u Ua6.ls))) .p))) [Ua6.pr] (by kernel_rfl) (.cons Rb6 .nil) (by kernel_rfl)
end Go.Ev.Ce
end
namespace Go.Ev.Ce
open Go Go.Ev Go.Ev.L Go.Proofs
theorem nc1 {Q:Pt→Prop} (r:List Pln) (p q:Pln):∀ (l:List Pln) (out:List Pt),(∀ s∈l,(mpt p q s).2=true→inn r (mpt p q s).1=true→Q (mpt p q s).1)→(∀ x∈out,Q x)→∀ x∈Ua5 r p q l out,Q x
 | [],out,_,h=>h
 | s::l,out,hs,h=>nc1 r p q l (pa3 r p q out s) (fun t ht=>hs t (List.mem_cons_of_mem _ ht)) fun x hx=>by
  unfold pa3 at hx
  split at hx
  ·rename_i hc
   rw[Bool.and_eq_true,Bool.and_eq_true] at hc
   rcases List.mem_append.1 hx with hx | hx
   ·exact h x hx
   ·rw[List.mem_singleton] at hx
    subst hx
    exact hs s List.mem_cons_self hc.1 hc.2.2
  ·exact h x hx
theorem nc2 {Q:Pt→Prop} (r:List Pln) (p:Pln):∀ (l:List Pln) (out:List Pt),(∀ q∈l,∀ s∈l,(mpt p q s).2=true→inn r (mpt p q s).1=true→Q (mpt p q s).1)→(∀ x∈out,Q x)→∀ x∈Ja8 r p l out,Q x
 | [],out,_,h=>h
 | q::l,out,hs,h=>nc2 r p l _ (fun a ha t ht=>hs a (List.mem_cons_of_mem _ ha) t (List.mem_cons_of_mem _ ht)) (nc1 r p q l out (fun t ht=>hs q List.mem_cons_self t (List.mem_cons_of_mem _ ht)) h)
theorem nc3 {Q:Pt→Prop} (r:List Pln):∀ (l:List Pln) (out:List Pt),(∀ p∈l,∀ q∈l,∀ s∈l,(mpt p q s).2=true→inn r (mpt p q s).1=true→Q (mpt p q s).1)→(∀ x∈out,Q x)→∀ x∈yb5 r l out,Q x
 | [],out,_,h=>h
 | p::l,out,hs,h=>nc3 r l _ (fun a ha c hc t ht=>hs a (List.mem_cons_of_mem _ ha) c (List.mem_cons_of_mem _ hc) t (List.mem_cons_of_mem _ ht)) (nc2 r p l out (fun c hc t ht=>hs p List.mem_cons_self c (List.mem_cons_of_mem _ hc) t (List.mem_cons_of_mem _ ht)) h)
theorem cc7 {Q:Pt→Prop} {r:List Pln} (hs:∀ p∈r,∀ q∈r,∀ s∈r,(mpt p q s).2=true→inn r (mpt p q s).1=true→Q (mpt p q s).1):∀ x∈cor r,Q x :=
 nc3 r r [] hs fun x hx=>by cases hx
structure Okx (x:Pt):Prop where
 w1:0 < x.pw
 w2:x.pw≤600000000000
 c1:Sm 300000000000000 x.px
 c2:Sm 300000000000000 x.py
 c3:Sm 300000000000000 x.pz
theorem gb3 {r:List Pln} (hb:Bds r):∀ x∈cor r,Okx x:=cc7 fun p hp q hq s hs h _=>by
 obtain⟨h1,h2,h3,h4,h5⟩:=vc1 (hb p hp) (hb q hq) (hb s hs) h
 exact⟨h1,h5,h2,h3,h4⟩
theorem Zc4 {c:List Pln}:∀ x∈pts c,Okx x:=by
 unfold pts
 cases h:chk c==0 with
 | false=>intro x hx;cases hx
 | true=>exact gb3 (gb2 h).1
theorem cc8 (c:List Pln):(pts c).length≤8000000:=by
 unfold pts
 cases h:chk c==0 with
 | false=>exact Nat.zero_le _
 | true=>exact zc6 _ (gb2 h).1 (gb2 h).2
theorem Pc7 {x y:Int} (hy:0 < y):Int.tmod x y+y*Int.tdiv x y=x∧-y < Int.tmod x y∧Int.tmod x y < y:=by
 refine⟨Int.tmod_add_mul_tdiv x y,?_,Int.tmod_lt_of_pos x hy⟩
 have:=Int.lt_tmod_of_pos x hy
 omega
theorem zc9 {x y q r:Int} (hy:0 < y) (h:r+y*q=x) (h1:0≤r) (h2:r < y):x / y=q:=((Int.ediv_emod_unique hy).2 ⟨h,h1,h2⟩).1
theorem Zc5 {x y:Int} (hx:Sm 300000000000000 x) (hy:0 < y):Sm 300000000000000 (Int.tdiv x y):=Y8 hx hy
theorem nc4 {x y:Int} (hx:Sm 300000000000000 x) (hy:0 < y):ra9 x y=some (i (x / y),[]):=by
 have hz:(y==0)=false:=by rw[beq_eq_false_iff_ne];omega
 obtain⟨h1,h2,h3⟩:=Pc7 (x:=x) hy
 have hb:=Zc5 hx hy
 unfold ra9
 rw[bf hz,bf hz,yb2 (hb.mono (by omega))]
 by_cases h:Int.tmod x y < 0
 ·rw[btD h,zc9 hy (q:=Int.tdiv x y - 1) (r:=Int.tmod x y+y) (by rw[Int.mul_sub];omega) (by omega) (by omega),Ca9 (by have:=hb.1;omega) (by have:=hb.2;omega)]
 ·rw[bfD h,zc9 hy h1 (by omega) h3]
theorem gb4 {x y:Int} (hx:Sm 300000000000000 x) (hy:0 < y):T3 x y=x / y:=by unfold T3;rw[nc4 hx hy];rfl
theorem gb5 {x y:Int} (hx:Sm 300000000000000 x) (hy:0 < y):T4 x y=true:=by unfold T4;rw[nc4 hx hy];rfl
noncomputable def Ha3 (s:V3×V3) (x:Pt):V3×V3 :=
 (⟨if x.px / x.pw < s.1.x then x.px / x.pw else s.1.x,if x.py / x.pw < s.1.y then x.py / x.pw else s.1.y,if x.pz / x.pw < s.1.z then x.pz / x.pw else s.1.z⟩,
  ⟨if W (0 - -x.px / x.pw) > s.2.x then W (0 - -x.px / x.pw) else s.2.x,if W (0 - -x.py / x.pw) > s.2.y then W (0 - -x.py / x.pw) else s.2.y,if W (0 - -x.pz / x.pw) > s.2.z then W (0 - -x.pz / x.pw) else s.2.z⟩)
noncomputable def bnd (c:List Pln):V3×V3×Bool :=
 if ful c then (((pts c).foldl Ha3 (⟨24,24,24⟩,⟨-24,-24,-24⟩)).1,((pts c).foldl Ha3 (⟨24,24,24⟩,⟨-24,-24,-24⟩)).2,true) else (⟨0,0,0⟩,⟨0,0,0⟩,false)
theorem Pc8 {x:Int} (h:Sm 300000000000000 x):W (0 - x)=-x:=by obtain⟨h1,h2⟩:=h;rw[Ca9 (by omega) (by omega)];omega
theorem Sm.neg {n x:Int} (h:Sm n x):Sm n (-x):=⟨by have:=h.2;omega,by have:=h.1;omega⟩
noncomputable def pd2 (r:V3×V3×Bool):a7:=.tup [.agg (tV.row r.1),.agg (tV.row r.2.1),b r.2.2]
theorem vc4 (X:List Pt) (hX:X.length≤8000000) (hok:∀ x∈X,Okx x) (s:V3×V3):∃ m,lp (X9 ⟨X,(X.length:Int)⟩) ⟨0,s.1.x,s.1.y,s.1.z,s.2.x,s.2.y,s.2.z⟩=(1,⟨m,(X.foldl Ha3 s).1.x,(X.foldl Ha3 s).1.y,(X.foldl Ha3 s).1.z,(X.foldl Ha3 s).2.x,(X.foldl Ha3 s).2.y,(X.foldl Ha3 s).2.z⟩):=by
 have h:=Fb0 (step:=X9 ⟨X,(X.length:Int)⟩) (mk:=fun j (s:V3×V3)=>(⟨(j:Int),s.1.x,s.1.y,s.1.z,s.2.x,s.2.y,s.2.z⟩:P6)) (f:=Ha3) (fin:=1) tX X (fun _ _=>True) (by omega)
  (fun j s hj _=>⟨by
   have hx:=hok _ (ac4 tX hj)
   simp only[X9,ca5,Int.toNat_natCast,Pc8 hx.c1,Pc8 hx.c2,Pc8 hx.c3,gb4 hx.c1 hx.w1,gb4 hx.c2 hx.w1,gb4 hx.c3 hx.w1,gb5 hx.c1 hx.w1,gb5 hx.c2 hx.w1,gb5 hx.c3 hx.w1,
    gb4 hx.c1.neg hx.w1,gb4 hx.c2.neg hx.w1,gb4 hx.c3.neg hx.w1,gb5 hx.c1.neg hx.w1,gb5 hx.c2.neg hx.w1,gb5 hx.c3.neg hx.w1,N2 hj (by omega)]
   rw[btD (O5 hj),bt (q9 hj)]
   rfl,trivial⟩)
  (fun s _=>by simp only[X9,ca5];rw[bfD (sa3 (Nat.lt_irrefl _))]) 0 (Nat.zero_le _) s trivial
 have h:=h.1
 rw[List.drop_zero] at h
 exact⟨_,h⟩
theorem nc5 {c:List Pln} (hc:c.length≤1000000000):sa0 c=some (pd2 (bnd c),[]):=by
 have ht:K5 ⟨24,24,24⟩ (-1)=⟨-24,-24,-24⟩:=by
  unfold K5
  rw[show W (24*-1)=-24 from by rw[Kc8];rfl]
 obtain⟨m,hm⟩:=vc4 (pts c) (cc8 c) Zc4 (⟨24,24,24⟩,⟨-24,-24,-24⟩)
 unfold sa0 bnd
 simp only[G6,la7,K4,Nb1 hc,Nb2 hc,Qa6 hc,Qa7 hc,ht,hm]
 cases ful c<;>rfl
theorem Ac0 (r:V3×V3×Bool):(jc3 r1V r1V r1B).rd (pd2 r,[])=some r:=rfl
theorem Ac1 {c:List Pln} (hc:c.length≤1000000000):sa1 c=bnd c:=by unfold sa1;rw[nc5 hc];exact Qa5 _ (Ac0 _)
theorem Ac2 {c:List Pln} (hc:c.length≤1000000000):sa2 c=true:=by unfold sa2;rw[nc5 hc];exact db0 _ (Ac0 _)
theorem Pc9 (x:Pt):(x.px==x.px&&(x.py==x.py&&(x.pz==x.pz&&(x.pw==x.pw&&true))))=true:=(cc3 x x).2 rfl
theorem Qc0 (x:Pln):(x.n.x==x.n.x&&(x.n.y==x.n.y&&(x.n.z==x.n.z&&(x.b==x.b&&true))))=true:=by simp
theorem kb0 (l:List Pt) (hl:l.length≤1000000000):ca6 l l=some (b true,[]):=by
 have h:=tc8 (step:=R8 ⟨l,l⟩) (mk:=fun j=>(⟨(j:Int)⟩:C6)) (c:=fun _=>false) (u:=1) (fin:=2) tX l hl
  (fun j hj=>by
   simp only[R8,P7,Int.toNat_natCast,N2 hj (by omega),Pc9]
   rw[btD (O5 hj),bt (q9 hj),bt (q9 hj)]
   rfl)
  (by simp only[R8,P7];rw[bfD (sa3 (Nat.lt_irrefl _))]) 0 (Nat.zero_le _)
 rw[List.drop_zero,show (l.any fun _=>false)=false by simp] at h
 unfold ca6
 simp only[G6,K4]
 rw[show (⟨0⟩:C6)=⟨((0:Nat):Int)⟩ from rfl,h,bf (by simp)]
 rfl
theorem tb2 (l:List Pt) (hl:l.length≤1000000000):ca7 l l=true:=by unfold ca7;rw[kb0 l hl];rfl
theorem tb3 (l:List Pt) (hl:l.length≤1000000000):ca8 l l=true:=by unfold ca8;rw[kb0 l hl];rfl
theorem Ac3 (l:List Pln) (hl:l.length≤1000000000):Ha2 l l=some (b true,[]):=by
 have h:=tc8 (step:=na1 ⟨l,l⟩) (mk:=fun j=>(⟨(j:Int)⟩:T5)) (c:=fun _=>false) (u:=1) (fin:=2) tP l hl
  (fun j hj=>by
   simp only[na1,ja1,Int.toNat_natCast,N2 hj (by omega),Qc0]
   rw[btD (O5 hj),bt (q9 hj),bt (q9 hj)]
   rfl)
  (by simp only[na1,ja1];rw[bfD (sa3 (Nat.lt_irrefl _))]) 0 (Nat.zero_le _)
 rw[List.drop_zero,show (l.any fun _=>false)=false by simp] at h
 unfold Ha2
 simp only[G6,K4]
 rw[show (⟨0⟩:T5)=⟨((0:Nat):Int)⟩ from rfl,h,bf (by simp)]
 rfl
theorem jd4 (l:List Pln) (hl:l.length≤1000000000):Ua7 l l=true:=by unfold Ua7;rw[Ac3 l hl];rfl
theorem jd5 (l:List Pln) (hl:l.length≤1000000000):Ua8 l l=true:=by unfold Ua8;rw[Ac3 l hl];rfl
end Go.Ev.Ce
namespace Go.Ev.Ce
open Go Go.Ev Go.Ev.L Go.Proofs
def Nx {σ:Type} (x:Stp σ) (E:Nat→Prop) (N:σ→Prop):Prop:=(∃ t,x=.exit t∧E t)∨∃ s,x=.next s∧N s
theorem Nx.sl {σ:Type} {c:Bool} {t e:Stp σ} {E:Nat→Prop} {N:σ→Prop} (h1:c=true→Nx t E N) (h2:c=false→Nx e E N):Nx (sl c t e) E N:=by cases c;exact h2 rfl;exact h1 rfl
theorem Nx.ex {σ:Type} {t:Nat} {E:Nat→Prop} {N:σ→Prop} (h:E t):Nx (.exit t) E N:=.inl ⟨t,rfl,h⟩
theorem Nx.nx {σ:Type} {s:σ} {E:Nat→Prop} {N:σ→Prop} (h:N s):Nx (.next s) E N:=.inr ⟨s,rfl,h⟩
theorem cc9 {σ τ : Type} {step : σ → Stp σ} {mk : Nat → τ → σ} (n : Nat) (I : Nat → τ → Prop) (E : Nat → σ → Prop) (hn : n ≤ 1000000000)
  (h:∀ j a,j < n→I j a→Nx (step (mk j a)) (fun t=>E t (mk j a)) (fun s=>∃ a',s=mk (j+1) a'∧I (j+1) a'))
  (hf:∀ j a,n≤j→I j a→∃ t,step (mk j a)=.exit t∧E t (mk j a)) (j0:Nat) (a:τ) (hi:I j0 a):∃ t s,lp step (mk j0 a)=(t,s)∧E t s:=by
 have key:=mb0 (step:=step) (I:=fun m s=>∃ j a,m=n - j∧s=mk j a∧I j a) (Q:=E) (fun m s ⟨j,a,hm,hs,ha⟩=>by
  subst hs
  by_cases hlt:j < n
  ·rcases h j a hlt ha with h1 | ⟨s',h1,a',h2,h3⟩
   ·exact .inl h1
   ·subst h2
    exact .inr ⟨_,n - (j+1),by omega,h1,j+1,a',rfl,rfl,h3⟩
  ·exact .inl (hf j a (by omega) ha)) (n - j0) (mk j0 a) (by omega) ⟨j0,a,rfl,rfl,hi⟩
 exact⟨_,_,rfl,key⟩
def Rd {ρ:Type} (R:RR ρ) (o:Option (a7×List a8)) (P:ρ→Prop):Prop:=∃ x r,o=some x∧R.rd x=some r∧P r
theorem Rd.p {ρ:Type} {R:RR ρ} {o:Option (a7×List a8)} {P:ρ→Prop} (h:Rd R o P):P (la8 R o):=by
 obtain⟨x,r,h1,h2,h3⟩:=h
 rw[h1,Qa5 R h2]
 exact h3
theorem Rd.g {ρ:Type} {R:RR ρ} {o:Option (a7×List a8)} {P:ρ→Prop} (h:Rd R o P):okO R o=true:=by
 obtain⟨x,r,h1,h2,h3⟩:=h
 rw[h1]
 exact db0 R h2
theorem Rd.sl {ρ:Type} {R:RR ρ} {c:Bool} {t e:Option (a7×List a8)} {P:ρ→Prop} (h1:c=true→Rd R t P) (h2:c=false→Rd R e P):Rd R (sl c t e) P:=by cases c;exact h2 rfl;exact h1 rfl
def inV (v:V3):Bool:=smb 24 v.x&&(smb 24 v.y&&smb 24 v.z)
theorem dc0 (v:V3):inV v=true↔Sm 24 v.x∧Sm 24 v.y∧Sm 24 v.z:=by unfold inV;rw[Bool.and_eq_true,Bool.and_eq_true,gb1,gb1,gb1]
def sub (a b:V3):V3:=⟨a.x - b.x,a.y - b.y,a.z - b.z⟩
def vc5 (a b c:V3):Pln×Bool :=
 if inV a&&(inV b&&inV c) then
  if g3 (o5 (sub b a) (sub c a))=0 then (⟨⟨0,0,0⟩,0⟩,false)
  else (⟨⟨Int.tdiv (o5 (sub b a) (sub c a)).x (g3 (o5 (sub b a) (sub c a))),Int.tdiv (o5 (sub b a) (sub c a)).y (g3 (o5 (sub b a) (sub c a))),Int.tdiv (o5 (sub b a) (sub c a)).z (g3 (o5 (sub b a) (sub c a)))⟩,
   dot ⟨Int.tdiv (o5 (sub b a) (sub c a)).x (g3 (o5 (sub b a) (sub c a))),Int.tdiv (o5 (sub b a) (sub c a)).y (g3 (o5 (sub b a) (sub c a))),Int.tdiv (o5 (sub b a) (sub c a)).z (g3 (o5 (sub b a) (sub c a)))⟩ a⟩,true)
 else (⟨⟨0,0,0⟩,0⟩,false)
end Go.Ev.Ce
namespace Go.Ev.Ce
open Go Go.Ev Go.Ev.L Go.Proofs
structure Fc (ph:Nat) (out:List Pln) (m:Nat):Prop where
 h:(ph=0∧out=[])∨ph=1
 l:out.length≤m
theorem Fc.more {ph m m':Nat} {out:List Pln} (h:Fc ph out m) (hm:m≤m'):Fc ph out m':=⟨h.h,Nat.le_trans h.l hm⟩
end Go.Ev.Ce
namespace Go.Ev.Ce
open Go Go.Ev Go.Ev.L Go.Proofs
theorem Fb5 {l:List Pln} {k:Nat} (h:k < l.length):ldR tP (bL tP l) (0+k)=true:=by rw[Nat.zero_add];exact tc3 tP h
theorem tb4 {l:List Pln} {k:Nat} (h:k < l.length):rdR tP (bL tP l) (0+k)=gL tP l k:=by rw[Nat.zero_add];exact tc2 tP h
theorem jd6 {l:List Pln} {n:Nat} {r:List (List a7)} {P:List Pln→Prop} (hn:n≤l.length) (hr:r=bL tP l) (h:P (l.take n)):Rd (one (r1L tP)) (some (.sl 0 0 n 0,[⟨42,4,r,true,false,0⟩])) P:=by
 subst hr
 have e1:slR tP (bL tP l) 0 n=l.take n:=Jb5 tP (by rw[List.length_take];omega) fun k hk=>by
  rw[Nat.zero_add,fa8 tP (by omega)]
  congr 1
  simp[gL,List.getD_eq_getElem?_getD,List.getElem?_take,hk]
 have e2:okS tP (bL tP l) 0 n=true:=wb6 tP (f:=fun k=>gL tP l k) fun k hk=>by rw[Nat.zero_add,fa8 tP (by omega)]
 refine⟨_,l.take n,rfl,?_,h⟩
 show Bool.rec (motive:=fun _=>Option (List Pln)) none (some (slR tP (bL tP l) 0 n)) (Bool.and true (okS tP (bL tP l) 0 n))=_
 rw[e1,e2]
 rfl
end Go.Ev.Ce
section
namespace Go.Ev.Ce
open Go Go.Ev Go.Ev.L Go.Proofs
set_option maxRecDepth 100000
structure wa0 where
 Ca0:Int
 Ca1:Int
 Ca2:Int
 Ia2:Int
 i9:List Pt
noncomputable def db1:List (Nat×Sum):=[(32,La8)]
theorem Db2:o9 prog G db1:=⟨Ta4,trivial⟩
structure fa0 where
 Bc9:List Pt
 is8:Int
 i9:List Pt
 O6:Int
 O7:Int
 O8:Int
 O9:Int
structure I9 where
 is4:Int
 is9:Int
noncomputable def yb6 (p:fa0) (s:I9):St:=⟨(.unk::(.unk::((.ptr 1 0 0 0)::(.unk::((i s.is4)::(.unk::(.unk::((eL tX p.Bc9)::((i p.is8)::((i s.is9)::(ra 12 []))))))))))),[⟨0,1,[[(eL tX p.i9)]],true,false,0⟩,⟨0,4,[[(i p.O6),(i p.O7),(i p.O8),(i p.O9)]],true,false,0⟩]⟩
noncomputable def Y9 {α:Type} (k:I9→α) (e:Nat→α) (z:α) (p:fa0) (s:I9):α:=let t1:=(da5 (⟨(⟨p.O6,p.O7,p.O8⟩:V3),p.O9⟩:Pln) (gL tX p.Bc9 s.is9.toNat));(sl (decide (s.is9 < p.is8)) (sl (inB s.is9 (List.length p.Bc9)) (sl (t1==0) (k ⟨(W (s.is4+1)),(W (s.is9+1))⟩) (k ⟨s.is4,(W (s.is9+1))⟩)) z) (e 1))
noncomputable def ca9 (p:fa0) (s:I9):Stp I9:=Y9 .next .exit .fail p s
noncomputable def Aa9:Lo fa0 I9:=⟨En db1,1,od1,[1,1,0,1,4,4],[2,4,7,8,9],.p,[⟨((.s (.o .unk))::((.s (.o .unk))::((.s (.o (.ptr 1 0 0 0)))::((.s (.o .unk))::((.s (.o (.int .i64)))::((.s (.o .unk))::((.s (.o .unk))::((.s (.c 4 (nL tX)))::((.s (.o (.int .i64)))::((.s (.o (.int .i64)))::(ru2 12 []))))))))))),[⟨0,1,true,(some [[(.c 4 (nL tX))]])⟩,⟨0,4,true,(some [[(.o (.int .i64)),(.o (.int .i64)),(.o (.int .i64)),(.o (.int .i64))]])⟩],fun a H=>(⟨(rL tX (slT a 7)),(toI (slT a 8)),(rL tX (slT (rwT (elT H 0) 0) 0)),(toI (slT (rwT (elT H 1) 0) 0)),(toI (slT (rwT (elT H 1) 0) 1)),(toI (slT (rwT (elT H 1) 0) 2)),(toI (slT (rwT (elT H 1) 0) 3))⟩,⟨(toI (slT a 4)),(toI (slT a 9))⟩)⟩],ca9,[(some 0,fun p s=>⟨(.unk::(.unk::((.ptr 1 0 0 0)::(.unk::((i s.is4)::(.unk::(.unk::((eL tX p.Bc9)::((i p.is8)::((i s.is9)::((b (decide (s.is9 < p.is8)))::(ra 11 [])))))))))))),[⟨0,1,[[(eL tX p.i9)]],true,false,0⟩,⟨0,4,[[(i p.O6),(i p.O7),(i p.O8),(i p.O9)]],true,false,0⟩]⟩)],yb6⟩
theorem yb7:Aa9.Ok:=Lo.ok [] (by kernel_rfl) .nil rfl (.cons (fun a H=>by kernel_rfl) .nil) fun p s=>(.of @Y9 (fun F _ _ _ _ _=>by unfold Y9;(repeat' apply C7 (f:=F))<;>rfl) (by kernel_rfl))
structure ga2 where
 alt:Nat
 bs0:Bool
 i9:List Pt
noncomputable def ga3 {α:Type} (kk:ga2→α) (x:wa0):α:=let t1:=(lp (ca9 (⟨(rt tX x.i9),(↑(List.length x.i9):Int),(rt tX x.i9),x.Ca0,x.Ca1,x.Ca2,x.Ia2⟩:fa0)) (⟨0,0⟩:I9));(sl ((cnE tX x.i9)&&((cnE tX x.i9)&&true)) (sl (Nat.beq t1.1 1) (kk ⟨1,(decide (t1.2.is4 < 3)),(rt tX x.i9)⟩) (kk ⟨0,false,[]⟩)) (kk ⟨0,false,[]⟩))
noncomputable def Z7 (x:wa0):ga2:=ga3 (fun r=>r) x
noncomputable def Ha4 (x:wa0) (r:ga2):DT (a7×List a8):=(.ite (Nat.beq r.alt 1) (.ret ((b r.bs0),[⟨0,1,[[(eL tX r.i9)]],true,false,0⟩])) .fail)
theorem Rb7 {α β:Type} (F:α→β) (kk:ga2→α) (x:wa0):F (ga3 kk x)=ga3 (fun r=>F (kk r)) x:=by unfold ga3;(repeat' apply C7 (f:=F))<;>rfl
noncomputable def Oa3:Sum:=Ma8 ⟨[(.agg [(.o (.int .i64)),(.o (.int .i64)),(.o (.int .i64)),(.o (.int .i64))]),(.s (.o (.ptr 0 0 0 0)))],[⟨0,1,true,(some [[(.c 4 (nL tX))]])⟩],fun a H=>(⟨(toI (slT (cellsOf (slT a 0)) 0)),(toI (slT (cellsOf (slT a 0)) 1)),(toI (slT (cellsOf (slT a 0)) 2)),(toI (slT (cellsOf (slT a 0)) 3)),(rL tX (slT (rwT (elT H 0) 0) 0))⟩,())⟩ (fun x=>Ha4 x (Z7 x))
theorem db2:j7 prog G 31 Oa3:=Q1 (enc:=fun x=>⟨[(.agg [(i x.Ca0),(i x.Ca1),(i x.Ca2),(i x.Ia2)]),(.ptr 0 0 0 0)],[⟨0,1,[[(eL tX x.i9)]],true,false,0⟩]⟩) (fun a H=>by kernel_rfl) (bd b31 Db2) fun x=>hb8 (.s .p (.s .p (.s (.s .p (.b (.u Aa9.ls))) .p))) [Aa9.pr] (by kernel_rfl) (.cons yb7 .nil) (Eq.trans (b:=ga3 (fun r=>(Ha4 x r).run) x) (by kernel_rfl) (Rb7 (fun r=>(Ha4 x r).run) (fun r=>r) x).symm)
structure L9 where
 ns0:Nat
 eh0:List (List a7)
 o6:List Pt
noncomputable def ja2:List (Nat×Sum):=[(31,Oa3)]
theorem Da8:o9 prog G ja2:=⟨db2,trivial⟩
structure E5 where
 ns0:Nat
 is7:Int
 eh0:List (List a7)
structure l7 where
 is8:Int
 o6:List Pt
noncomputable def Ba0 (p:E5) (s:l7):St:=⟨((.sl 0 0 p.ns0 0)::((.fn 31 [(.ptr 1 0 0 0)])::(ra 5 ((i p.is7)::((i s.is8)::(ra 10 [])))))),[⟨42,4,p.eh0,true,false,0⟩,⟨0,1,[[(eL tX s.o6)]],true,false,0⟩]⟩
noncomputable def A9 {α:Type} (k:l7→α) (e:Nat→α) (z:α) (p:E5) (s:l7):α:=let t1:=(Z7 ⟨(rdR tP p.eh0 (0+s.is8.toNat)).n.x,(rdR tP p.eh0 (0+s.is8.toNat)).n.y,(rdR tP p.eh0 (0+s.is8.toNat)).n.z,(rdR tP p.eh0 (0+s.is8.toNat)).b,(rt tX s.o6)⟩);(sl (decide (s.is8 < p.is7)) (sl (inB s.is8 p.ns0) (sl (ldR tP p.eh0 (0+s.is8.toNat)) (sl ((cnE tX s.o6)&&true) (sl (Nat.beq t1.alt 1) (sl t1.bs0 (e 1) (k ⟨(W (s.is8+1)),t1.i9⟩)) z) z) z) z) (e 2))
noncomputable def D4 (p:E5) (s:l7):Stp l7:=A9 .next .exit .fail p s
noncomputable def T6:Lo E5 l7:=⟨En ja2,2,Xc9,[1,0,1,4,4],[0,1,7,8],.p,[⟨((.s (.o (.sl 0 0 (some 0) none)))::((.fn 31 [(.o (.ptr 1 0 0 0))])::(ru2 5 ((.s (.o (.int .i64)))::((.s (.o (.int .i64)))::(ru2 10 [])))))),[⟨42,4,true,none⟩,⟨0,1,true,(some [[(.c 4 (nL tX))]])⟩],fun a H=>(⟨(slN (slT a 0)),(toI (slT a 7)),(elT H 0)⟩,⟨(toI (slT a 8)),(rL tX (slT (rwT (elT H 1) 0) 0))⟩)⟩],D4,[(none,fun p s=>let t1:=(Z7 ⟨(rdR tP p.eh0 (0+s.is8.toNat)).n.x,(rdR tP p.eh0 (0+s.is8.toNat)).n.y,(rdR tP p.eh0 (0+s.is8.toNat)).n.z,(rdR tP p.eh0 (0+s.is8.toNat)).b,(rt tX s.o6)⟩);⟨[(i s.is8)],[⟨42,4,p.eh0,true,false,0⟩,⟨0,1,[[(eL tX t1.i9)]],true,false,0⟩]⟩),(some 0,fun p s=>⟨((.sl 0 0 p.ns0 0)::((.fn 31 [(.ptr 1 0 0 0)])::(ra 5 ((i p.is7)::((i s.is8)::((b (decide (s.is8 < p.is7)))::(ra 9 []))))))),[⟨42,4,p.eh0,true,false,0⟩,⟨0,1,[[(eL tX s.o6)]],true,false,0⟩]⟩)],Ba0⟩
theorem Ba1:T6.Ok:=Lo.ok [] (by kernel_rfl) .nil rfl (.cons (fun a H=>by kernel_rfl) .nil) fun p s=>(.of @A9 (fun F _ _ _ _ _=>by unfold A9;(repeat' apply C7 (f:=F))<;>rfl) (by kernel_rfl))
structure M0 where
 alt:Nat
 is0:Int
 o6:List Pt
noncomputable def B9 {α:Type} (kk:M0→α) (x:L9):α:=let t1:=(lp (D4 (⟨x.ns0,(↑x.ns0:Int),x.eh0⟩:E5)) (⟨0,(rt tX x.o6)⟩:l7));let t2:=(Z7 ⟨(rdR tP x.eh0 (0+t1.2.is8.toNat)).n.x,(rdR tP x.eh0 (0+t1.2.is8.toNat)).n.y,(rdR tP x.eh0 (0+t1.2.is8.toNat)).n.z,(rdR tP x.eh0 (0+t1.2.is8.toNat)).b,(rt tX t1.2.o6)⟩);(sl ((cnE tX x.o6)&&true) (sl (Nat.beq t1.1 1) (kk ⟨1,t1.2.is8,t2.i9⟩) (sl (Nat.beq t1.1 2) (kk ⟨1,(-1),t1.2.o6⟩) (kk ⟨0,0,[]⟩))) (kk ⟨0,0,[]⟩))
noncomputable def M1 (x:L9):M0:=B9 (fun r=>r) x
noncomputable def W0 (x:L9) (r:M0):DT (a7×List a8):=(.ite (Nat.beq r.alt 1) (.ret ((i r.is0),[⟨42,4,x.eh0,true,false,0⟩,⟨0,1,[[(eL tX r.o6)]],true,false,0⟩])) .fail)
theorem Ja9 {α β:Type} (F:α→β) (kk:M0→α) (x:L9):F (B9 kk x)=B9 (fun r=>F (kk r)) x:=by unfold B9;(repeat' apply C7 (f:=F))<;>rfl
noncomputable def la1:Sum:=Ma8 ⟨[(.s (.o (.sl 0 0 (some 0) none))),(.fn 31 [(.o (.ptr 1 0 0 0))])],[⟨42,4,true,none⟩,⟨0,1,true,(some [[(.c 4 (nL tX))]])⟩],fun a H=>(⟨(slN (slT a 0)),(elT H 0),(rL tX (slT (rwT (elT H 1) 0) 0))⟩,())⟩ (fun x=>W0 x (M1 x))
theorem Ha5:j7 prog G 55 la1:=Q1 (enc:=fun x=>⟨[(.sl 0 0 x.ns0 0),(.fn 31 [(.ptr 1 0 0 0)])],[⟨42,4,x.eh0,true,false,0⟩,⟨0,1,[[(eL tX x.o6)]],true,false,0⟩]⟩) (fun a H=>by kernel_rfl) (bd b55 Da8) fun x=>hb8 (.s .p (.s (.s .p (.b (.u T6.ls))) .p)) [T6.pr] (by kernel_rfl) (.cons Ba1 .nil) (Eq.trans (b:=B9 (fun r=>(W0 x r).run) x) (by kernel_rfl) (Ja9 (fun r=>(W0 x r).run) (fun r=>r) x).symm)
structure M2 where
 ns0:Nat
 eh0:List (List a7)
 o6:List Pt
noncomputable def ja3:List (Nat×Sum):=[(55,la1),(31,Oa3)]
theorem Da9:o9 prog G ja3:=⟨Ha5,db2,trivial⟩
structure E6 where
 ns0:Nat
structure n9 where
 is5:Int
 is6:Int
 eh0:List (List a7)
 o6:List Pt
noncomputable def Ba2 (p:E6) (s:n9):St:=⟨((.sl 0 0 p.ns0 0)::((.fn 31 [(.ptr 1 0 0 0)])::(ra 3 ((i s.is5)::((i s.is6)::(ra 35 [])))))),[⟨42,4,s.eh0,true,false,0⟩,⟨0,1,[[(eL tX s.o6)]],true,false,0⟩]⟩
noncomputable def B0 {α:Type} (k:n9→α) (e:Nat→α) (z:α) (p:E6) (s:n9):α:=let t1:=(Z7 ⟨(rdR tP s.eh0 (0+s.is6.toNat)).n.x,(rdR tP s.eh0 (0+s.is6.toNat)).n.y,(rdR tP s.eh0 (0+s.is6.toNat)).n.z,(rdR tP s.eh0 (0+s.is6.toNat)).b,(rt tX s.o6)⟩);(sl (decide (s.is6 < (↑p.ns0:Int))) (sl (inB s.is6 p.ns0) (sl (ldR tP s.eh0 (0+s.is6.toNat)) (sl ((cnE tX s.o6)&&true) (sl (Nat.beq t1.alt 1) (sl (!t1.bs0) (sl (inB s.is5 p.ns0) (sl ((Nat.blt (0+s.is5.toNat) (len s.eh0))&&(Nat.ble (0+4) (len (r8 s.eh0 (0+s.is5.toNat))))) (k ⟨(W (s.is5+1)),(W (s.is6+1)),(setAt s.eh0 (0+s.is5.toNat) (ba1 (r8 s.eh0 (0+s.is5.toNat)) 0 [(i (rdR tP s.eh0 (0+s.is6.toNat)).n.x),(i (rdR tP s.eh0 (0+s.is6.toNat)).n.y),(i (rdR tP s.eh0 (0+s.is6.toNat)).n.z),(i (rdR tP s.eh0 (0+s.is6.toNat)).b)])),t1.i9⟩) z) z) (k ⟨s.is5,(W (s.is6+1)),s.eh0,t1.i9⟩)) z) z) z) z) (e 1))
noncomputable def w8 (p:E6) (s:n9):Stp n9:=B0 .next .exit .fail p s
noncomputable def T7:Lo E6 n9:=⟨En ja3,2,od0,[1,1,1,0,1,4,4],[0,1,5,6],.p,[⟨((.s (.o (.sl 0 0 (some 0) none)))::((.fn 31 [(.o (.ptr 1 0 0 0))])::(ru2 3 ((.s (.o (.int .i64)))::((.s (.o (.int .i64)))::(ru2 35 [])))))),[⟨42,4,true,none⟩,⟨0,1,true,(some [[(.c 4 (nL tX))]])⟩],fun a H=>(⟨(slN (slT a 0))⟩,⟨(toI (slT a 5)),(toI (slT a 6)),(elT H 0),(rL tX (slT (rwT (elT H 1) 0) 0))⟩)⟩],w8,[(some 0,fun p s=>⟨((.sl 0 0 p.ns0 0)::((.fn 31 [(.ptr 1 0 0 0)])::(ra 3 ((i s.is5)::((i s.is6)::(ra 9 ((i s.is6)::((.sl 0 0 p.ns0 0)::((i (↑p.ns0:Int))::((b (decide (s.is6 < (↑p.ns0:Int))))::(ra 22 []))))))))))),[⟨42,4,s.eh0,true,false,0⟩,⟨0,1,[[(eL tX s.o6)]],true,false,0⟩]⟩)],Ba2⟩
theorem Ba3:T7.Ok:=Lo.ok [] (by kernel_rfl) .nil rfl (.cons (fun a H=>by kernel_rfl) .nil) fun p s=>(.of @B0 (fun F _ _ _ _ _=>by unfold B0;(repeat' apply C7 (f:=F))<;>rfl) (by kernel_rfl))
structure M3 where
 alt:Nat
 ns0:Nat
 eh0:List (List a7)
 o6:List Pt
noncomputable def C0 {α:Type} (kk:M3→α) (x:M2):α:=let t1:=(M1 ⟨x.ns0,x.eh0,(rt tX x.o6)⟩);let t2:=(lp (w8 (⟨x.ns0⟩:E6)) (⟨t1.is0,(W (t1.is0+1)),x.eh0,(rt tX t1.o6)⟩:n9));(sl ((cnE tX x.o6)&&true) (sl (Nat.beq t1.alt 1) (sl (t1.is0==(-1)) (kk ⟨1,x.ns0,x.eh0,t1.o6⟩) (sl ((cnE tX t1.o6)&&true) (sl (Nat.beq t2.1 1) (sl (inB t2.2.is5 (x.ns0+1)) (sl (inB t2.2.is5 (x.ns0+1)) (kk ⟨1,(t2.2.is5.toNat - 0),(app (E9 t2.2.eh0 (0+t2.2.is5.toNat)) (app (List.replicate (x.ns0 - t2.2.is5.toNat) [(i 0),(i 0),(i 0),(i 0)]) (j9 t2.2.eh0 ((0+t2.2.is5.toNat)+(x.ns0 - t2.2.is5.toNat))))),t2.2.o6⟩) (kk ⟨0,0,[],[]⟩)) (kk ⟨0,0,[],[]⟩)) (kk ⟨0,0,[],[]⟩)) (kk ⟨0,0,[],[]⟩))) (kk ⟨0,0,[],[]⟩)) (kk ⟨0,0,[],[]⟩))
noncomputable def M4 (x:M2):M3:=C0 (fun r=>r) x
noncomputable def W4 (x:M2) (r:M3):DT (a7×List a8):=(.ite (Nat.beq r.alt 1) (.ret ((.sl 0 0 r.ns0 0),[⟨42,4,r.eh0,true,false,0⟩,⟨0,1,[[(eL tX r.o6)]],true,false,0⟩])) .fail)
theorem Ka0 {α β:Type} (F:α→β) (kk:M3→α) (x:M2):F (C0 kk x)=C0 (fun r=>F (kk r)) x:=by unfold C0;(repeat' apply C7 (f:=F))<;>rfl
noncomputable def la2:Sum:=Ma8 ⟨[(.s (.o (.sl 0 0 (some 0) none))),(.fn 31 [(.o (.ptr 1 0 0 0))])],[⟨42,4,true,none⟩,⟨0,1,true,(some [[(.c 4 (nL tX))]])⟩],fun a H=>(⟨(slN (slT a 0)),(elT H 0),(rL tX (slT (rwT (elT H 1) 0) 0))⟩,())⟩ (fun x=>W4 x (M4 x))
theorem Ha6:j7 prog G 29 la2:=Q1 (enc:=fun x=>⟨[(.sl 0 0 x.ns0 0),(.fn 31 [(.ptr 1 0 0 0)])],[⟨42,4,x.eh0,true,false,0⟩,⟨0,1,[[(eL tX x.o6)]],true,false,0⟩]⟩) (fun a H=>by kernel_rfl) (bd b29 Da9) fun x=>hb8 (.s .p (.s .p (.s .p (.s (.s .p (.b (.u T7.ls))) .p)))) [T7.pr] (by kernel_rfl) (.cons Ba3 .nil) (Eq.trans (b:=C0 (fun r=>(W4 x r).run) x) (by kernel_rfl) (Ka0 (fun r=>(W4 x r).run) (fun r=>r) x).symm)
structure T8 where
 ns0:Nat
 eh0:List (List a7)
noncomputable def da0:List (Nat×Sum):=[]
theorem Oa4:o9 prog G da0:=trivial
structure y9 where
 ns0:Nat
 os4:Nat
 ns4:Nat
structure m0 where
 is3:Int
 is5:Int
 eh0:List (List a7)
noncomputable def Ka1 (p:y9) (s:m0):St:=⟨((.sl 0 0 p.ns0 0)::(.unk::(.unk::((i s.is3)::((.sl 0 p.os4 p.ns4 0)::((i s.is5)::(ra 55 []))))))),[⟨42,4,s.eh0,true,false,0⟩]⟩
noncomputable def F7 {α:Type} (k:m0→α) (e:Nat→α) (z:α) (p:y9) (s:m0):α:=(sl (decide (s.is5 < (↑p.ns4:Int))) (sl (inB s.is5 p.ns4) (sl (ldR tP s.eh0 (p.os4+s.is5.toNat)) (sl (inB (W (s.is5 - 1)) p.ns4) (sl (ldR tP s.eh0 (p.os4+(W (s.is5 - 1)).toNat)) (sl (!(((rdR tP s.eh0 (p.os4+s.is5.toNat)).n.x==(rdR tP s.eh0 (p.os4+(W (s.is5 - 1)).toNat)).n.x)&&(((rdR tP s.eh0 (p.os4+s.is5.toNat)).n.y==(rdR tP s.eh0 (p.os4+(W (s.is5 - 1)).toNat)).n.y)&&(((rdR tP s.eh0 (p.os4+s.is5.toNat)).n.z==(rdR tP s.eh0 (p.os4+(W (s.is5 - 1)).toNat)).n.z)&&(((rdR tP s.eh0 (p.os4+s.is5.toNat)).b==(rdR tP s.eh0 (p.os4+(W (s.is5 - 1)).toNat)).b)&&true))))) (sl (inB s.is5 p.ns4) (sl (ldR tP s.eh0 (p.os4+s.is5.toNat)) (sl (inB s.is3 p.ns0) (sl ((Nat.blt (0+s.is3.toNat) (len s.eh0))&&(Nat.ble (0+4) (len (r8 s.eh0 (0+s.is3.toNat))))) (k ⟨(W (s.is3+1)),(W (s.is5+1)),(setAt s.eh0 (0+s.is3.toNat) (ba1 (r8 s.eh0 (0+s.is3.toNat)) 0 [(i (rdR tP s.eh0 (p.os4+s.is5.toNat)).n.x),(i (rdR tP s.eh0 (p.os4+s.is5.toNat)).n.y),(i (rdR tP s.eh0 (p.os4+s.is5.toNat)).n.z),(i (rdR tP s.eh0 (p.os4+s.is5.toNat)).b)]))⟩) z) z) z) z) (k ⟨s.is3,(W (s.is5+1)),s.eh0⟩)) z) z) z) z) (e 1))
noncomputable def n7 (p:y9) (s:m0):Stp m0:=F7 .next .exit .fail p s
noncomputable def Z8:Lo y9 m0:=⟨En da0,1,hd8,[1,1,0,1,4,4,1,0,4,1,2,1,0,1,4,4],[0,3,4,5],.p,[⟨((.s (.o (.sl 0 0 (some 0) none)))::((.s (.o .unk))::((.s (.o .unk))::((.s (.o (.int .i64)))::((.s (.o (.sl 0 0 none none)))::((.s (.o (.int .i64)))::(ru2 55 []))))))),[⟨42,4,true,none⟩],fun a H=>(⟨(slN (slT a 0)),(slO (slT a 4)),(slN (slT a 4))⟩,⟨(toI (slT a 3)),(toI (slT a 5)),(elT H 0)⟩)⟩],n7,[(some 2,fun p s=>⟨((.sl 0 0 p.ns0 0)::(.unk::(.unk::((i s.is3)::((.sl 0 p.os4 p.ns4 0)::((i s.is5)::(ra 23 ((i s.is5)::((.sl 0 p.os4 p.ns4 0)::((i (↑p.ns4:Int))::((b (decide (s.is5 < (↑p.ns4:Int))))::(ra 28 [])))))))))))),[⟨42,4,s.eh0,true,false,0⟩]⟩)],Ka1⟩
theorem Ka2:Z8.Ok:=Lo.ok [] (by kernel_rfl) .nil rfl (.cons (fun a H=>by kernel_rfl) .nil) fun p s=>(.of @F7 (fun F _ _ _ _ _=>by unfold F7;(repeat' apply C7 (f:=F))<;>rfl) (by kernel_rfl))
structure H7 where
 ns0:Nat
 eh0:List (List a7)
structure o0 where
 is3:Int
noncomputable def Ka3 (p:H7) (s:o0):St:=⟨((.sl 0 0 p.ns0 0)::(.unk::(.unk::((i s.is3)::(ra 57 []))))),[⟨42,4,p.eh0,true,false,0⟩]⟩
noncomputable def F8 {α:Type} (k:o0→α) (e:Nat→α) (z:α) (p:H7) (s:o0):α:=let t1:=(lp (n7 (⟨p.ns0,(0+s.is3.toNat),(p.ns0 - s.is3.toNat)⟩:y9)) (⟨s.is3,1,p.eh0⟩:m0));(sl (decide (s.is3 < (↑p.ns0:Int))) (sl (inB s.is3 p.ns0) (sl (ldR tP p.eh0 (0+s.is3.toNat)) (sl (inB (W (s.is3 - 1)) p.ns0) (sl (ldR tP p.eh0 (0+(W (s.is3 - 1)).toNat)) (sl (((rdR tP p.eh0 (0+s.is3.toNat)).n.x==(rdR tP p.eh0 (0+(W (s.is3 - 1)).toNat)).n.x)&&(((rdR tP p.eh0 (0+s.is3.toNat)).n.y==(rdR tP p.eh0 (0+(W (s.is3 - 1)).toNat)).n.y)&&(((rdR tP p.eh0 (0+s.is3.toNat)).n.z==(rdR tP p.eh0 (0+(W (s.is3 - 1)).toNat)).n.z)&&(((rdR tP p.eh0 (0+s.is3.toNat)).b==(rdR tP p.eh0 (0+(W (s.is3 - 1)).toNat)).b)&&true)))) (sl (inB s.is3 (p.ns0+1)) (sl (Nat.beq t1.1 1) (sl (inB t1.2.is3 (p.ns0+1)) (sl (inB t1.2.is3 (p.ns0+1)) (e 1) z) z) z) z) (k ⟨(W (s.is3+1))⟩)) z) z) z) z) (e 2))
noncomputable def G3 (p:H7) (s:o0):Stp o0:=F8 .next .exit .fail p s
noncomputable def Z9:Lo H7 o0:=⟨En da0,1,hd8,[1,1,0,1,4,4],[0,3],(.s .p (.s (.b (.s .p (.c (.s .p (.s (.s .p (.b (.u Z8.ls))) .p)) .p))) .p)),[⟨((.s (.o (.sl 0 0 (some 0) none)))::((.s (.o .unk))::((.s (.o .unk))::((.s (.o (.int .i64)))::(ru2 57 []))))),[⟨42,4,true,none⟩],fun a H=>(⟨(slN (slT a 0)),(elT H 0)⟩,⟨(toI (slT a 3))⟩)⟩],G3,[(none,fun p s=>let t1:=(lp (n7 (⟨p.ns0,(0+s.is3.toNat),(p.ns0 - s.is3.toNat)⟩:y9)) (⟨s.is3,1,p.eh0⟩:m0));⟨[(.sl 0 0 (t1.2.is3.toNat - 0) 0)],[⟨42,4,(app (E9 t1.2.eh0 (0+t1.2.is3.toNat)) (app (List.replicate (p.ns0 - t1.2.is3.toNat) [(i 0),(i 0),(i 0),(i 0)]) (j9 t1.2.eh0 ((0+t1.2.is3.toNat)+(p.ns0 - t1.2.is3.toNat))))),true,false,0⟩]⟩),(some 0,fun p s=>⟨((.sl 0 0 p.ns0 0)::(.unk::(.unk::((i s.is3)::(ra 6 ((i s.is3)::((.sl 0 0 p.ns0 0)::((i (↑p.ns0:Int))::((b (decide (s.is3 < (↑p.ns0:Int))))::(ra 47 [])))))))))),[⟨42,4,p.eh0,true,false,0⟩]⟩)],Ka3⟩
theorem Ka4:Z9.Ok:=Lo.ok [Z8.pr] (by kernel_rfl) (.cons Ka2 .nil) rfl (.cons (fun a H=>by kernel_rfl) .nil) fun p s=>(.of @F8 (fun F _ _ _ _ _=>by unfold F8;(repeat' apply C7 (f:=F))<;>rfl) (by kernel_rfl))
structure T9 where
 alt:Nat
 ns0:Nat
 eh0:List (List a7)
noncomputable def G1 {α:Type} (kk:T9→α) (x:T8):α:=let t1:=(lp (G3 (⟨x.ns0,x.eh0⟩:H7)) (⟨1⟩:o0));let t2:=(lp (n7 (⟨x.ns0,(0+t1.2.is3.toNat),(x.ns0 - t1.2.is3.toNat)⟩:y9)) (⟨t1.2.is3,1,x.eh0⟩:m0));(sl (decide ((↑x.ns0:Int) < 2)) (kk ⟨1,x.ns0,x.eh0⟩) (sl (Nat.beq t1.1 1) (kk ⟨1,(t2.2.is3.toNat - 0),(app (E9 t2.2.eh0 (0+t2.2.is3.toNat)) (app (List.replicate (x.ns0 - t2.2.is3.toNat) [(i 0),(i 0),(i 0),(i 0)]) (j9 t2.2.eh0 ((0+t2.2.is3.toNat)+(x.ns0 - t2.2.is3.toNat)))))⟩) (sl (Nat.beq t1.1 2) (kk ⟨1,x.ns0,x.eh0⟩) (kk ⟨0,0,[]⟩))))
noncomputable def U0 (x:T8):T9:=G1 (fun r=>r) x
noncomputable def da1 (x:T8) (r:T9):DT (a7×List a8):=(.ite (Nat.beq r.alt 1) (.ret ((.sl 0 0 r.ns0 0),[⟨42,4,r.eh0,true,false,0⟩])) .fail)
theorem Ua9 {α β:Type} (F:α→β) (kk:T9→α) (x:T8):F (G1 kk x)=G1 (fun r=>F (kk r)) x:=by unfold G1;(repeat' apply C7 (f:=F))<;>rfl
noncomputable def sa5:Sum:=Ma8 ⟨[(.s (.o (.sl 0 0 (some 0) none)))],[⟨42,4,true,none⟩],fun a H=>(⟨(slN (slT a 0)),(elT H 0)⟩,())⟩ (fun x=>da1 x (U0 x))
theorem Qa9:j7 prog G 35 sa5:=Q1 (enc:=fun x=>⟨[(.sl 0 0 x.ns0 0)],[⟨42,4,x.eh0,true,false,0⟩]⟩) (fun a H=>by kernel_rfl) (bd b35 Oa4) fun x=>hb8 (.s .p (.s .p (.s (.s .p (.b (.u Z9.ls))) .p))) [Z9.pr] (by kernel_rfl) (.cons Ka4 .nil) (Eq.trans (b:=G1 (fun r=>(da1 x r).run) x) (by kernel_rfl) (Ua9 (fun r=>(da1 x r).run) (fun r=>r) x).symm)
noncomputable def Nb4:List (Nat×Sum):=[]
theorem Db3:o9 prog G Nb4:=trivial
noncomputable def na2 (x:Int) (y:Int):Option (a7×List a8):=(sl (decide (x < y)) (some ((i (-1)),[])) (sl (decide (x > y)) (some ((i 1),[])) (some ((i 0),[]))))
noncomputable def aa0 (x:Int) (y:Int):Int:=la8 (one r1I) (na2 x y)
noncomputable def aa1 (x:Int) (y:Int):Bool:=okO (one r1I) (na2 x y)
noncomputable def kb1:Sum:=wa6 cI cI (fun x y=>.guard (aa1 x y) (.ret ((one r1I).enc (aa0 x y),[])))
theorem Nb5:j7 prog G 46 kb1:=Jb7 (bd b46 Db3) (one r1I) (o:=na2) fun x y=>J5 (by kernel_rfl)
noncomputable def yb8:List (Nat×Sum):=[(46,kb1)]
theorem tb5:o9 prog G yb8:=⟨Nb5,trivial⟩
noncomputable def fa1 (x:Pln) (y:Pln):Option (a7×List a8):=let t1:=(aa0 x.n.x y.n.x);let t2:=(aa0 x.n.y y.n.y);let t3:=(aa0 x.n.z y.n.z);let t4:=(aa0 x.b y.b);(sl (aa1 x.n.x y.n.x) (sl (t1==0) (sl (aa1 x.n.y y.n.y) (sl (t2==0) (sl (aa1 x.n.z y.n.z) (sl (t3==0) (sl (aa1 x.b y.b) (sl (t4==0) (some ((i t4),[])) (some ((i t4),[]))) none) (some ((i t3),[]))) none) (some ((i t2),[]))) none) (some ((i t1),[]))) none)
noncomputable def na9 (x:Pln) (y:Pln):Int:=la8 (one r1I) (fa1 x y)
noncomputable def oa0 (x:Pln) (y:Pln):Bool:=okO (one r1I) (fa1 x y)
noncomputable def Ba4:Sum:=wa6 (Ia3 tP) (Ia3 tP) (fun x y=>.guard (oa0 x y) (.ret ((one r1I).enc (na9 x y),[])))
theorem yb9:j7 prog G 34 Ba4:=Jb7 (bd b34 tb5) (one r1I) (o:=fa1) fun x y=>J5 (by kernel_rfl)
noncomputable def nc6:List (Nat×Sum):=[(63,Ga6)]
theorem dc1:o9 prog G nc6:=⟨Wa4,trivial⟩
noncomputable def Ha7 (x:V3):Option (a7×List a8):=let t1:=(ca0 24 [x.x,x.y,x.z]);(sl (ca1 24 [x.x,x.y,x.z]) (some ((b t1),[])) none)
noncomputable def Va0 (x:V3):Bool:=la8 (one r1B) (Ha7 x)
noncomputable def Va1 (x:V3):Bool:=okO (one r1B) (Ha7 x)
noncomputable def Nb6:Sum:=wa5 (Ia3 tV) (fun x=>.guard (Va1 x) (.ret ((one r1B).enc (Va0 x),[])))
theorem nc7:j7 prog G 40 Nb6:=hb6 (bd b40 dc1) (one r1B) (o:=Ha7) fun x=>J5 (by kernel_rfl)
noncomputable def nc8:List (Nat×Sum):=[(26,ka4),(40,Nb6),(39,va7)]
theorem dc2:o9 prog G nc8:=⟨ma8,nc7,Ga5,trivial⟩
noncomputable def Ha8 (x:List Pln) (y:V3):Option (a7×List a8):=let t1:=(S8 [(rt tP x)]);let t2:=(Va0 y);let t3:=(N9 (rt tP x) (⟨y.x,y.y,y.z,1⟩:Pt));(sl ((okE tP x)&&true) (sl (S9 [(rt tP x)]) (sl t1 (sl (Va1 y) (sl t2 (sl (okE tP x) (sl (O0 (rt tP x) (⟨y.x,y.y,y.z,1⟩:Pt)) (some ((b t3),[])) none) none) (some ((b false),[]))) none) (some ((b false),[]))) none) none)
noncomputable def oa8 (x:List Pln) (y:V3):Bool:=la8 (one r1B) (Ha8 x y)
noncomputable def W5 (x:List Pln) (y:V3):Bool:=okO (one r1B) (Ha8 x y)
noncomputable def nb2:Sum:=wa6 (Fa8 tP) (Ia3 tV) (fun x y=>.guard (W5 x y) (.ret ((one r1B).enc (oa8 x y),[])))
theorem Bb2:j7 prog G 14 nb2:=Jb7 (bd b14 dc2) (one r1B) (o:=Ha8) fun x y=>J5 (by kernel_rfl)
noncomputable def Rb8:List (Nat×Sum):=[(26,ka4),(27,gb0),(36,oa6)]
theorem Nb7:o9 prog G Rb8:=⟨ma8,mb9,Ba9,trivial⟩
noncomputable def sa6 (x:List Pln) (y:List Pln):Option (a7×List a8):=let t1:=(S8 [(rt tP x),(rt tP y)]);let t2:=(ua7 [(rt tP x),(rt tP y)]);let t3:=(V7 (rt tP t2));(sl ((okE tP x)&&((okE tP y)&&true)) (sl (S9 [(rt tP x),(rt tP y)]) (sl (!t1) (some ((b true),[])) (sl ((okE tP x)&&((okE tP y)&&true)) (sl (ua8 [(rt tP x),(rt tP y)]) (sl (okE tP t2) (sl (V8 (rt tP t2)) (some ((b (!t3)),[])) none) none) none) none)) none) none)
noncomputable def ea1 (x:List Pln) (y:List Pln):Bool:=la8 (one r1B) (sa6 x y)
noncomputable def E7 (x:List Pln) (y:List Pln):Bool:=okO (one r1B) (sa6 x y)
noncomputable def Va2:Sum:=wa6 (Fa8 tP) (Fa8 tP) (fun x y=>.guard (E7 x y) (.ret ((one r1B).enc (ea1 x y),[])))
theorem kb2:j7 prog G 12 Va2:=Jb7 (bd b12 Nb7) (one r1B) (o:=sa6) fun x y=>J5 (by kernel_rfl)
structure oa1 where
 Ca0:Int
 Ca1:Int
 Ca2:Int
 Ia2:Int
 d7:List Pln
noncomputable def zb0:List (Nat×Sum):=[(39,va7)]
theorem tb6:o9 prog G zb0:=⟨Ga5,trivial⟩
structure fa2 where
 alt:Nat
 bs0:Bool
noncomputable def Y0 {α:Type} (kk:fa2→α) (x:oa1):α:=let t1:=(N9 (rt tP x.d7) (⟨x.Ca0,x.Ca1,x.Ca2,x.Ia2⟩:Pt));(sl (okE tP x.d7) (sl (O0 (rt tP x.d7) (⟨x.Ca0,x.Ca1,x.Ca2,x.Ia2⟩:Pt)) (kk ⟨1,(!t1)⟩) (kk ⟨0,false⟩)) (kk ⟨0,false⟩))
noncomputable def oa2 (x:oa1):fa2:=Y0 (fun r=>r) x
noncomputable def va1 (x:oa1) (r:fa2):DT (a7×List a8):=(.ite (Nat.beq r.alt 1) (.ret ((b r.bs0),[⟨0,1,[[(eL tP x.d7)]],true,false,0⟩])) .fail)
theorem Db4 {α β:Type} (F:α→β) (kk:fa2→α) (x:oa1):F (Y0 kk x)=Y0 (fun r=>F (kk r)) x:=by unfold Y0;(repeat' apply C7 (f:=F))<;>rfl
noncomputable def Wa7:Sum:=Ma8 ⟨[(.agg [(.o (.int .i64)),(.o (.int .i64)),(.o (.int .i64)),(.o (.int .i64))]),(.s (.o (.ptr 0 0 0 0)))],[⟨0,1,true,(some [[(.c 4 (nL tP))]])⟩],fun a H=>(⟨(toI (slT (cellsOf (slT a 0)) 0)),(toI (slT (cellsOf (slT a 0)) 1)),(toI (slT (cellsOf (slT a 0)) 2)),(toI (slT (cellsOf (slT a 0)) 3)),(rL tP (slT (rwT (elT H 0) 0) 0))⟩,())⟩ (fun x=>va1 x (oa2 x))
theorem zb1:j7 prog G 38 Wa7:=Q1 (enc:=fun x=>⟨[(.agg [(i x.Ca0),(i x.Ca1),(i x.Ca2),(i x.Ia2)]),(.ptr 0 0 0 0)],[⟨0,1,[[(eL tP x.d7)]],true,false,0⟩]⟩) (fun a H=>by kernel_rfl) (bd b38 tb6) fun x=>J5 (Eq.trans (b:=Y0 (fun r=>(va1 x r).run) x) (by kernel_rfl) (Db4 (fun r=>(va1 x r).run) (fun r=>r) x).symm)
structure M5 where
 G4:List Pt
 d7:List Pln
noncomputable def ja4:List (Nat×Sum):=[(38,Wa7)]
theorem Ea0:o9 prog G ja4:=⟨zb1,trivial⟩
structure E8 where
 G4:List Pt
 is7:Int
structure l8 where
 is8:Int
 d7:List Pln
noncomputable def Ba5 (p:E8) (s:l8):St:=⟨((eL tX p.G4)::((.fn 38 [(.ptr 0 0 0 0)])::(ra 5 ((i p.is7)::((i s.is8)::(ra 10 [])))))),[⟨0,1,[[(eL tP s.d7)]],true,false,0⟩]⟩
noncomputable def B1 {α:Type} (k:l8→α) (e:Nat→α) (z:α) (p:E8) (s:l8):α:=let t1:=(oa2 ⟨(gL tX p.G4 s.is8.toNat).px,(gL tX p.G4 s.is8.toNat).py,(gL tX p.G4 s.is8.toNat).pz,(gL tX p.G4 s.is8.toNat).pw,(rt tP s.d7)⟩);(sl (decide (s.is8 < p.is7)) (sl (inB s.is8 (List.length p.G4)) (sl ((cnE tP s.d7)&&true) (sl (Nat.beq t1.alt 1) (sl t1.bs0 (e 1) (k ⟨(W (s.is8+1)),(rt tP s.d7)⟩)) z) z) z) (e 2))
noncomputable def D5 (p:E8) (s:l8):Stp l8:=B1 .next .exit .fail p s
noncomputable def U1:Lo E8 l8:=⟨En ja4,1,id1,[1,0,1,4,4],[0,1,7,8],.p,[⟨((.s (.c 4 (nL tX)))::((.fn 38 [(.o (.ptr 0 0 0 0))])::(ru2 5 ((.s (.o (.int .i64)))::((.s (.o (.int .i64)))::(ru2 10 [])))))),[⟨0,1,true,(some [[(.c 4 (nL tP))]])⟩],fun a H=>(⟨(rL tX (slT a 0)),(toI (slT a 7))⟩,⟨(toI (slT a 8)),(rL tP (slT (rwT (elT H 0) 0) 0))⟩)⟩],D5,[(none,fun p s=>⟨[(i s.is8)],[⟨0,1,[[(eL tP (rt tP s.d7))]],true,false,0⟩]⟩),(some 0,fun p s=>⟨((eL tX p.G4)::((.fn 38 [(.ptr 0 0 0 0)])::(ra 5 ((i p.is7)::((i s.is8)::((b (decide (s.is8 < p.is7)))::(ra 9 []))))))),[⟨0,1,[[(eL tP s.d7)]],true,false,0⟩]⟩)],Ba5⟩
theorem Ba6:U1.Ok:=Lo.ok [] (by kernel_rfl) .nil rfl (.cons (fun a H=>by kernel_rfl) .nil) fun p s=>(.of @B1 (fun F _ _ _ _ _=>by unfold B1;(repeat' apply C7 (f:=F))<;>rfl) (by kernel_rfl))
structure M6 where
 alt:Nat
 is0:Int
 d7:List Pln
noncomputable def C3 {α:Type} (kk:M6→α) (x:M5):α:=let t1:=(lp (D5 (⟨(rt tX x.G4),(↑(List.length x.G4):Int)⟩:E8)) (⟨0,(rt tP x.d7)⟩:l8));(sl ((cnE tX x.G4)&&((cnE tP x.d7)&&true)) (sl (Nat.beq t1.1 1) (kk ⟨1,t1.2.is8,(rt tP t1.2.d7)⟩) (sl (Nat.beq t1.1 2) (kk ⟨1,(-1),t1.2.d7⟩) (kk ⟨0,0,[]⟩))) (kk ⟨0,0,[]⟩))
noncomputable def X6 (x:M5):M6:=C3 (fun r=>r) x
noncomputable def W6 (x:M5) (r:M6):DT (a7×List a8):=(.ite (Nat.beq r.alt 1) (.ret ((i r.is0),[⟨0,1,[[(eL tP r.d7)]],true,false,0⟩])) .fail)
theorem Ka5 {α β:Type} (F:α→β) (kk:M6→α) (x:M5):F (C3 kk x)=C3 (fun r=>F (kk r)) x:=by unfold C3;(repeat' apply C7 (f:=F))<;>rfl
noncomputable def la3:Sum:=Ma8 ⟨[(.s (.c 4 (nL tX))),(.fn 38 [(.o (.ptr 0 0 0 0))])],[⟨0,1,true,(some [[(.c 4 (nL tP))]])⟩],fun a H=>(⟨(rL tX (slT a 0)),(rL tP (slT (rwT (elT H 0) 0) 0))⟩,())⟩ (fun x=>W6 x (X6 x))
theorem Ha9:j7 prog G 61 la3:=Q1 (enc:=fun x=>⟨[(eL tX x.G4),(.fn 38 [(.ptr 0 0 0 0)])],[⟨0,1,[[(eL tP x.d7)]],true,false,0⟩]⟩) (fun a H=>by kernel_rfl) (bd b61 Ea0) fun x=>hb8 (.s .p (.s (.s .p (.b (.u U1.ls))) .p)) [U1.pr] (by kernel_rfl) (.cons Ba6 .nil) (Eq.trans (b:=C3 (fun r=>(W6 x r).run) x) (by kernel_rfl) (Ka5 (fun r=>(W6 x r).run) (fun r=>r) x).symm)
structure J0 where
 G4:List Pt
 d7:List Pln
noncomputable def ya3:List (Nat×Sum):=[(61,la3)]
theorem va2:o9 prog G ya3:=⟨Ha9,trivial⟩
structure J1 where
 alt:Nat
 bs0:Bool
 d7:List Pln
noncomputable def w9 {α:Type} (kk:J1→α) (x:J0):α:=let t1:=(X6 ⟨(rt tX x.G4),(rt tP x.d7)⟩);(sl ((cnE tX x.G4)&&((cnE tP x.d7)&&true)) (sl (Nat.beq t1.alt 1) (kk ⟨1,(decide (t1.is0≥0)),t1.d7⟩) (kk ⟨0,false,[]⟩)) (kk ⟨0,false,[]⟩))
noncomputable def R3 (x:J0):J1:=w9 (fun r=>r) x
noncomputable def P8 (x:J0) (r:J1):DT (a7×List a8):=(.ite (Nat.beq r.alt 1) (.ret ((b r.bs0),[⟨0,1,[[(eL tP r.d7)]],true,false,0⟩])) .fail)
theorem Ba7 {α β:Type} (F:α→β) (kk:J1→α) (x:J0):F (w9 kk x)=w9 (fun r=>F (kk r)) x:=by unfold w9;(repeat' apply C7 (f:=F))<;>rfl
noncomputable def fa3:Sum:=Ma8 ⟨[(.s (.c 4 (nL tX))),(.fn 38 [(.o (.ptr 0 0 0 0))])],[⟨0,1,true,(some [[(.c 4 (nL tP))]])⟩],fun a H=>(⟨(rL tX (slT a 0)),(rL tP (slT (rwT (elT H 0) 0) 0))⟩,())⟩ (fun x=>P8 x (R3 x))
theorem ya4:j7 prog G 37 fa3:=Q1 (enc:=fun x=>⟨[(eL tX x.G4),(.fn 38 [(.ptr 0 0 0 0)])],[⟨0,1,[[(eL tP x.d7)]],true,false,0⟩]⟩) (fun a H=>by kernel_rfl) (bd b37 va2) fun x=>J5 (Eq.trans (b:=w9 (fun r=>(P8 x r).run) x) (by kernel_rfl) (Ba7 (fun r=>(P8 x r).run) (fun r=>r) x).symm)
noncomputable def Nb8:List (Nat×Sum):=[(20,ya2),(26,ka4),(9,ga1),(37,fa3)]
theorem Db5:o9 prog G Nb8:=⟨Da7,ma8,ia9,ya4,trivial⟩
noncomputable def na3 (x:List Pln) (y:List Pln):Option (a7×List a8):=let t1:=(da6 (rt tP x));let t2:=(S8 [(rt tP y)]);let t3:=(O3 (rt tP x));let t4:=(R3 ⟨(rt tX t3),(rt tP y)⟩);(sl (okE tP x) (sl (da7 (rt tP x)) (sl t1 (sl ((okE tP y)&&true) (sl (S9 [(rt tP y)]) (sl t2 (sl (okE tP x) (sl (O4 (rt tP x)) (sl ((cnE tX t3)&&((cnE tP y)&&true)) (sl (Nat.beq t4.alt 1) (some ((b (!t4.bs0)),[])) none) none) none) none) (some ((b false),[]))) none) none) (some ((b false),[]))) none) none)
noncomputable def aa2 (x:List Pln) (y:List Pln):Bool:=la8 (one r1B) (na3 x y)
noncomputable def A2 (x:List Pln) (y:List Pln):Bool:=okO (one r1B) (na3 x y)
noncomputable def Oa5:Sum:=wa6 (Fa8 tP) (Fa8 tP) (fun x y=>.guard (A2 x y) (.ret ((one r1B).enc (aa2 x y),[])))
theorem db3:j7 prog G 13 Oa5:=Jb7 (bd b13 Db5) (one r1B) (o:=na3) fun x y=>J5 (by kernel_rfl)
noncomputable def nc9:List (Nat×Sum):=[]
theorem dc3:o9 prog G nc9:=trivial
structure Va3 where
 c8:Int
 d8:Int
 d9:Int
 e7:Int
 e8:Int
 f0:Int
noncomputable def Ia0 {α:Type} (kk:Va3→α) (x:V3) (y:V3):α:=(kk ⟨y.x,(W (0 - x.x)),y.y,(W (0 - x.y)),y.z,(W (0 - x.z))⟩)
noncomputable def u9 (x:V3) (y:V3):Va3:=Ia0 (fun r=>r) x y
noncomputable def db4 (r:Va3):DT (a7×List a8):=.ret ((.sl 0 0 6 0),[⟨42,4,[[(i 1),(i 0),(i 0),(i r.c8)],[(i (-1)),(i 0),(i 0),(i r.d8)],[(i 0),(i 1),(i 0),(i r.d9)],[(i 0),(i (-1)),(i 0),(i r.e7)],[(i 0),(i 0),(i 1),(i r.e8)],[(i 0),(i 0),(i (-1)),(i r.f0)]],true,false,0⟩])
theorem vc6 {α β:Type} (F:α→β) (kk:Va3→α) (x:V3) (y:V3):F (Ia0 kk x y)=Ia0 (fun r=>F (kk r)) x y:=by unfold Ia0;(repeat' apply C7 (f:=F))<;>rfl
noncomputable def nb3:Sum:=wa6 (Ia3 tV) (Ia3 tV) (fun x y=>db4 (u9 x y))
theorem Bb3:j7 prog G 7 nb3:=Sa7 (bd b7 dc3) fun x y=>J5 (Eq.trans (b:=Ia0 (fun r=>(db4 r).run) x y) (by kernel_rfl) (vc6 (fun r=>(db4 r).run) (fun r=>r) x y).symm)
noncomputable def Rb9:List (Nat×Sum):=[(7,nb3)]
theorem Nb9:o9 prog G Rb9:=⟨Bb3,trivial⟩
structure Ea1 where
 c8:Int
 d8:Int
 d9:Int
 e7:Int
 e8:Int
 f0:Int
noncomputable def sa7 {α:Type} (kk:Ea1→α)  : α:=let t1:=(u9 (⟨0,0,0⟩:V3) (⟨1,1,1⟩:V3));(kk ⟨t1.c8,t1.d8,t1.d9,t1.e7,t1.e8,t1.f0⟩)
noncomputable def Va4  : Ea1:=sa7 (fun r=>r)
noncomputable def Oa6 (r:Ea1):DT (a7×List a8):=.ret ((.sl 0 0 6 0),[⟨42,4,[[(i 1),(i 0),(i 0),(i r.c8)],[(i (-1)),(i 0),(i 0),(i r.d8)],[(i 0),(i 1),(i 0),(i r.d9)],[(i 0),(i (-1)),(i 0),(i r.e7)],[(i 0),(i 0),(i 1),(i r.e8)],[(i 0),(i 0),(i (-1)),(i r.f0)]],true,false,0⟩])
theorem dc4 {α β:Type} (F:α→β) (kk:Ea1→α)  : F (sa7 kk )=sa7 (fun r=>F (kk r))  :=by unfold sa7;(repeat' apply C7 (f:=F))<;>rfl
noncomputable def tb7:Sum:=ic5  (Oa6 (Va4 ))
theorem Sb0:j7 prog G 21 tb7:=xc8 (bd b21 Nb9) (J5 (Eq.trans (b:=sa7 (fun r=>(Oa6 r).run) ) (by kernel_rfl) (dc4 (fun r=>(Oa6 r).run) (fun r=>r) ).symm))
end Go.Ev.Ce
end
namespace Go.Ev.Ce
open Go Go.Ev Go.Ev.L Go.Proofs
theorem Qc1 (v:V3):Va0 v=inV v∧Va1 v=true:=by
 have h3:[v.x,v.y,v.z].length≤1000000000:=by simp
 have:Ha7 v=some (b (inV v),[]):=by
  unfold Ha7 inV
  simp only[yb3 24 _ (by omega) h3,yb4 24 _ (by omega) h3,na5]
  simp only[List.all_cons,List.all_nil,Bool.and_true]
 unfold Va0 Va1
 rw[this]
 exact⟨rfl,rfl⟩
noncomputable def has (c:List Pln) (v:V3):Bool:=(chk c==0)&&(inV v&&inn c ⟨v.x,v.y,v.z,1⟩)
theorem Qc2 {c:List Pln} (hc:c.length≤1000000000) (v:V3):Ha8 c v=some (b (has c v),[]):=by
 unfold Ha8 has
 simp only[G6,la7,sb9 c hc,tb0 c hc,(Qc1 v).1,(Qc1 v).2,Mb3 c _ hc,Mb4 c _ hc]
 cases chk c==0 with
 | false=>rfl
 | true=>cases inV v<;>rfl
theorem dd5 {c:List Pln} (hc:c.length≤1000000000) (v:V3):oa8 c v=has c v:=by unfold oa8;rw[Qc2 hc];rfl
theorem dd6 {c:List Pln} (hc:c.length≤1000000000) (v:V3):W5 c v=true:=by unfold W5;rw[Qc2 hc];rfl
theorem oc0 {a c:List Pln} (ha:(chk a==0)=true) (hc:(chk c==0)=true):Bds (a++c++ws)∧(a++c++ws).length≤200:=by
 rw[beq_iff_eq,sb8] at ha hc
 refine⟨fun p hp=>?_,by rw[List.length_append,List.length_append,show ws.length=6 from rfl];omega⟩
 rcases List.mem_append.1 hp with hp | hp
 ·rcases List.mem_append.1 hp with hp | hp
  ·exact Mb6 (ha.2 p hp)
  ·exact Mb6 (hc.2 p hp)
 ·exact dd1 p hp
noncomputable def apart (a c:List Pln):Bool:=!((chk a==0)&&(chk c==0))||!ball (a++c++ws)
theorem oc1 {a c:List Pln} (ha:a.length≤100000000) (hc:c.length≤100000000):sa6 a c=some (b (apart a c),[]):=by
 have hn:[a,c].length≤1000000000:=by simp
 have hl:∀ x∈[a,c],x.length≤1000000000:=by
  intro x hx
  simp only[List.mem_cons,List.not_mem_nil,or_false] at hx
  rcases hx with rfl | rfl<;>omega
 have hf:[a,c].flatten=a++c:=by simp
 have hfl:[a,c].flatten.length≤1000000000:=by rw[hf,List.length_append];omega
 unfold sa6 apart
 simp only[G6,la7,mc7 _ hn hl,mc8 _ hn hl,pd0 _ hn hfl,pd1 _ hn hfl,hf,List.all_cons,List.all_nil,Bool.and_true]
 cases h1:chk a==0 with
 | false=>rfl
 | true =>
  cases h2:chk c==0 with
  | false=>rfl
  | true =>
   obtain⟨q1,q2⟩:=oc0 h1 h2
   rw[Pc5 _ q1 q2,Pc6 _ q1 q2]
   rfl
theorem Ac4 {a c:List Pln} (ha:a.length≤100000000) (hc:c.length≤100000000):ea1 a c=apart a c:=by unfold ea1;rw[oc1 ha hc];rfl
theorem Ac5 {a c:List Pln} (ha:a.length≤100000000) (hc:c.length≤100000000):E7 a c=true:=by unfold E7;rw[oc1 ha hc];rfl
noncomputable def dc5 (a c:List Pln):Bool:=ful a&&((chk c==0)&&(pts a).all (inn c))
theorem vc7 (x:Pt) (c:List Pln) (hc:c.length≤1000000000):oa2 ⟨x.px,x.py,x.pz,x.pw,c⟩=⟨1,!inn c x⟩:=by
 unfold oa2 Y0
 simp only[G6,la7,na5]
 show sl (O0 c x) (fa2.mk 1 (!N9 c x)) _=_
 rw[Mb3 c x hc,Mb4 c x hc]
 rfl
theorem Wb6 {a c:List Pln} (ha:a.length≤1000000000) (hc:c.length≤1000000000):na3 a c=some (b (dc5 a c),[]):=by
 have hX:=cc8 a
 have h:=Sa8 (step:=D5 ⟨pts a,((pts a).length:Int)⟩) (mk:=fun j=>(⟨(j:Int),c⟩:l8)) (c:=fun x=>!inn c x) (u:=1) (fin:=2) tX (pts a) (by omega)
  (fun j hj=>by
   simp only[D5,B1,Int.toNat_natCast,G6,K4,vc7 _ _ hc,N2 hj (show (pts a).length≤4611686018427387904 by omega)]
   rw[btD (O5 hj),bt (q9 hj)]
   rfl)
  (by simp only[D5,B1];rw[bfD (sa3 (Nat.lt_irrefl _))]) 0 (Nat.zero_le _)
 rw[List.drop_zero] at h
 have e:((pts a).any fun x=>!inn c x)=!(pts a).all (inn c):=by rw[List.not_all_eq_any_not]
 unfold na3 R3 w9 X6 C3 dc5
 simp only[G6,K4,la7,Nb1 ha,Nb2 ha,sb9 c hc,tb0 c hc,Qa6 ha,Qa7 ha]
 rw[show (⟨0,c⟩:l8)=⟨((0:Nat):Int),c⟩ from rfl,h,e]
 cases ful a with
 | false=>rfl
 | true =>
  cases chk c==0 with
  | false=>rfl
  | true =>
   cases (pts a).all (inn c) with
   | true=>rfl
   | false =>
    simp only[Bool.not_false,if_true,Nat.zero_add]
    show some (b (!(decide ((((pts a).findIdx fun x=>!inn c x:Nat):Int)≥0))),[])=_
    rw[show decide ((((pts a).findIdx fun x=>!inn c x:Nat):Int)≥0)=true from decide_eq_true (by omega)]
    rfl
theorem oc2 {a c:List Pln} (ha:a.length≤1000000000) (hc:c.length≤1000000000):aa2 a c=dc5 a c:=by unfold aa2;rw[Wb6 ha hc];rfl
theorem oc3 {a c:List Pln} (ha:a.length≤1000000000) (hc:c.length≤1000000000):A2 a c=true:=by unfold A2;rw[Wb6 ha hc];rfl
end Go.Ev.Ce
namespace Go.Ev.L
open Go Go.Ev Go.Sort Go.Proofs
section
variable {α:Type} [Inhabited α] {P:Program} {G:Nat→List Value} {g:FuncId} {S:Sum} {t:Ty α} {enc:α→List Value} {cf:α→α→Int}
theorem Zc6 (hc : j7 P G g S) (hS : ∀ x y, (S [.agg (t.row x), .agg (t.row y)] []).run = some (i (cf x y), [])) (hG : ∀ n, G n = []) (he : ∀ x, t.row x = (enc x).map .v) (k blk off size : Nat) (w : World) :
  CmpLays P g #[] enc k cf blk off size w:=by
 intro m os dk _ x y
 generalize sortWorldK enc k w blk off m dk os=w0
 have hrow:∀ (z:α),S1 (fun _=>⟨0,0,0⟩) [] (fun _ _=>False) w0 (.agg (t.row z)) (.agg (enc z).toArray):=fun z=>by
  refine .agg _ _ (by rw[he];simp) fun i u u' hu hu'=>?_
  rw[he,List.getElem?_map] at hu
  have hu':(enc z)[i]?=some u':=by simpa using hu'
  rw[hu'] at hu
  injection hu with hu
  subst hu
  exact .v _
 obtain⟨_,h⟩:=hc _ _ _ _ (hS x y) (fun k=>w0.heap.size≤k) (fun _=>⟨0,0,0⟩) (fun _ _=>False) w0 [.agg (enc x).toArray,.agg (enc y).toArray]
  ⟨fun id b hb=>by simp at hb,fun id id' b b' hb=>by simp at hb,fun b o hf=>hf.elim,fun k hk=>hk⟩ rfl
  (fun i u u' hu hu'=>by
   match i,hu,hu' with
   | 0,hu,hu'=>cases hu;cases hu';exact .val (hrow x)
   | 1,hu,hu'=>cases hu;cases hu';exact .val (hrow y))
  (fun n c v hv=>by rw[hG] at hv;simp at hv)
 refine h.mono fun e w' ⟨r',h1,ρ',F',h2,h3,h4⟩=>?_
 have h5:=R5 h4
 subst h5
 refine⟨h1,w'.drawn - w0.drawn,w'.heap.extract w0.heap.size w'.heap.size,?_⟩
 have hd:=h2.ext.drawn
 have hs:=h2.ext.size
 have hheap:w'.heap=w0.heap++w'.heap.extract w0.heap.size w'.heap.size:=by
  apply Array.ext_getElem?
  intro j
  rcases Nat.lt_or_ge j w0.heap.size with hj | hj
  ·rw[Array.getElem?_append_left hj,h2.ext.block j hj (by omega)]
  ·rw[Array.getElem?_append_right hj,Array.getElem?_extract]
   have e:w0.heap.size+(j - w0.heap.size)=j:=by omega
   rw[e]
   split
   ·rfl
   ·rw[Array.getElem?_eq_none (by omega)]
 obtain⟨hp,tp,dr,os',out⟩:=w'
 have e1:=h2.ext.os;have e2:=h2.ext.tape;have e3:=h2.ext.output
 simp only at e1 e2 e3 hd hheap
 subst e1 e2 e3
 unfold grow World.drewN
 simp only
 congr 1
 omega
noncomputable def Qc3 (t:Ty α) (g:Nat) (et:Nat) (srt:List α→List α):Sum:=fun args blks=>match args,blks with
 | [.sl 0 0 n 0,.fn g' []],[⟨et',es',el,true,false,0⟩] =>
  Bool.rec (motive:=fun _=>DT (a7×List a8)) .fail (.guard (Bool.and (Nat.ble n room) (Bool.and (Nat.ble n (len el)) (okS t el 0 n))) (.ret (.v (.tuple #[]),[⟨et',es',app (bL t (srt (slR t el 0 n))) (j9 el n),true,false,0⟩])))
   (Bool.and (Nat.beq g' g) (Bool.and (Nat.beq et' et) (Nat.beq es' t.es)))
 | _,_=>.fail
theorem tb8 (l:List α) (j:Nat) (h:j < l.length):l.toArray[j]! = l[j]:=by
 rw[getElem!_pos l.toArray j (by simpa using h)]
 simp
theorem Zc7 {f : FuncId} {et : Nat} {srt : List α → List α} (hcall : Za4 P f) (hes : 0 < t.es) (he : ∀ x, t.row x = (enc x).map .v) (hx : ∀ r, t.ok r = true → r = t.row (t.rd r)) (h1 : ∀ x, ∀ v ∈ enc x, v.oneCell' = true)
  (hlen:∀ l,(srt l).length=l.length) (hcl:∀ blk off size w,CmpLays P g #[] enc t.es cf blk off size w)
  (hcon:∀ (blk cap:Nat) (d:Array α) (w:World),(∀ off size,CmpLays P g #[] enc t.es cf blk off size w)→HoldsK enc t.es w blk 0 d→blk < w.heap.size→d.size < 4611686018427387904 →
   Calls P f #[.slice (some ⟨blk,0,none⟩) d.size cap,.func (.func g) #[] #[]] w fun e w'=>e=.returned (.tuple #[])∧∃ n os,w'=sortWorldK enc t.es w blk 0 n (srt d.toList).toArray os) :
  j7 P G f (Qc3 t g et srt):=by
 intro args blks r out hr W ρ F w args' hH hl hargs hG
 refine⟨hcall,?_⟩
 unfold Qc3 at hr
 split at hr
 case h_2=>cases hr
 rename_i n g' et' es' el
 cases hb0:Bool.and (Nat.beq g' g) (Bool.and (Nat.beq et' et) (Nat.beq es' t.es)) with
 | false=>rw[hb0] at hr;cases hr
 | true =>
 rw[hb0] at hr
 rw[Bool.and_eq_true,Bool.and_eq_true] at hb0
 have q1:=Nat.eq_of_beq_eq_true hb0.1;have q2:=Nat.eq_of_beq_eq_true hb0.2.1;have q3:=Nat.eq_of_beq_eq_true hb0.2.2
 subst q1 q2 q3
 obtain⟨hg0,hr⟩:=DT.run_guard_some hr
 rw[Bool.and_eq_true,Bool.and_eq_true] at hg0
 have hroom:n≤room:=Nat.le_of_ble_eq_true hg0.1
 have hn:=Nat.le_of_ble_eq_true hg0.2.1
 rw[j8] at hn
 have hok:=hg0.2.2
 injection hr with hr;injection hr with p1 p2;subst p1 p2
 match args',hl with
 | [v0,v1],_ =>
 obtain⟨a,cap,b,rfl,hb,hd,_,hncap,hspot,hcap,hq⟩:=la6 (hargs 0 _ _ rfl rfl)
 obtain⟨vs1,rfl,hvs1,_⟩:=Ra6 (hargs 1 _ _ rfl rfl)
 have hvs1:vs1=#[]:=Array.eq_empty_of_size_eq_zero (by simpa using hvs1.symm)
 subst hvs1
 rw[Ea4] at *
 have hb:b=⟨et',t.es,el,true,false,0⟩:=by simpa using hb.symm
 subst hb
 obtain⟨ha,hsz,hne⟩:=hq rfl
 have ha:a=⟨(ρ 0).blk,(ρ 0).off+0*t.es,none⟩:=ha.resolve_left fun h=>by omega
 obtain⟨cc,tt,fr,hB⟩:=hH.blk 0 _ rfl rfl
 obtain⟨hfr,hW,hoff,hsize,hnF,het⟩:=hB.own rfl
 subst hfr
 rw[hoff,Nat.zero_mul,Nat.add_zero] at ha
 subst ha
 generalize hbk:(ρ 0).blk=blk at *
 -- the rows as data
 have hrow:∀ j,j < n→r8 el j=(enc (gL t (slR t el 0 n) j)).map .v:=fun j hj=>by
  have h2:t.ok (r8 el (0+j))=true:=List.all_eq_true.1 hok j (by simpa using hj)
  rw[Nat.zero_add] at h2
  rw[← he,slR,yc1 t _ hj,Nat.zero_add]
  exact hx _ h2
 have hld:(slR t el 0 n).length=n:=yc0 ..
 have hk:∀ x,(enc x).length=t.es:=fun x=>by have:=t.h0 x;rw[j8,he] at this;simpa using this
 have hlt:blk < w.heap.size:=by
  have:=hB.obj
  rcases Nat.lt_or_ge blk w.heap.size with h | h
  ·exact h
  ·rw[hbk,Array.getElem?_eq_none h] at this;cases this
 have hobj:w.heap[blk]?=some (.cells cc tt (0,0)):=by rw[← hbk];exact hB.obj
 have hgd:∀ (l:List α) (j:Nat) (h:j < l.length),gL t l j=l[j]:=fun l j h=>by simp[gL,List.getD_eq_getElem?_getD,List.getElem?_eq_getElem h]
 have hdm:∀ q,q < n*t.es→q / t.es < n∧q % t.es < t.es∧(q / t.es)*t.es+q % t.es=q:=fun q hq=>⟨Nat.div_lt_of_lt_mul (by rw[Nat.mul_comm];exact hq),Nat.mod_lt _ hes,Nat.div_add_mod' q t.es⟩
 have hrowAt:∀ j,j < el.length→el[j]?=some (r8 el j):=fun j hj=>by
  unfold r8;rw[y5,List.getElem?_eq_getElem hj]
 have hH0:HoldsK enc t.es w blk 0 (slR t el 0 n).toArray:=by
  intro q hq
  have hq:q < n*t.es:=by rw[size_flatK] at hq;simpa [hld] using hq
  obtain⟨e1,e2,e3⟩:=hdm q hq
  rw[get_flatK _ _ _ _ (by simpa [hld] using hq),tb8 _ _ (by rw[hld];exact e1),← hgd _ _ (by rw[hld];exact e1)]
  have hcx:(r8 el (q / t.es))[q % t.es]?=some (.v ((enc (gL t (slR t el 0 n) (q / t.es)))[q % t.es]!)):=by
   rw[hrow _ e1,List.getElem?_map,List.getElem?_eq_getElem (by rw[hk];exact e2),getElem!_pos _ _ (by rw[hk];exact e2)]
   rfl
  obtain⟨x',h5,h6⟩:=hB.cell (q / t.es) _ (q % t.es) _ (hrowAt _ (by omega)) hcx
  have h6:x'=(enc (gL t (slR t el 0 n) (q / t.es)))[q % t.es]! :=by cases h6;rfl
  subst h6
  rw[hoff] at h5
  simp only[e3,Nat.zero_add] at h5
  constructor
  ·simp only[World.cell?,hobj,Nat.zero_add]
   simpa using h5
  ·simp[World.frozen?,hobj]
 have hds:(slR t el 0 n).toArray.size=n:=by simpa using hld
 have hmax:n < 4611686018427387904:=by unfold room at hroom;omega
 have hcalls:=hcon blk cap (slR t el 0 n).toArray w (fun off size=>hcl blk off size w) hH0 hlt (by rw[hds];exact hmax)
 rw[hds] at hcalls
 refine hcalls.mono fun e w' ⟨h5,m,os,h6⟩=>⟨_,h5,ρ,F,?_⟩
 generalize hsd:srt (slR t el 0 n)=sd at *
 have hsl:sd.length=n:=by rw[← hsd,hlen,hld]
 have h6:w'=grow (mapBlock (Sort.ahead w m) blk (putCells id 0 (flatK enc t.es sd.toArray))) os:=h6
 have hw'size:w'.heap.size=w.heap.size+os.size:=by rw[h6];simp[mapBlock]
 have hold:∀ k,k < w.heap.size→k≠blk→w'.heap[k]?=w.heap[k]?:=fun k h7 h8=>by
  rw[h6]
  simp only[grow,mapBlock]
  rw[Array.getElem?_append_left (by simpa using h7),Array.getElem?_modify]
  simp[Ne.symm h8]
 have hnew:w'.heap[blk]?=some (.cells (putCells id 0 (flatK enc t.es sd.toArray) cc) tt (0,0)):=by
  rw[h6]
  simp only[grow,mapBlock]
  rw[Array.getElem?_append_left (by simpa using hlt),Array.getElem?_modify]
  simp[hobj,onCells]
 have hcells:∀ b o,F b o→w'.cell? ⟨b,o,none⟩=w.cell? ⟨b,o,none⟩:=fun b o hf=>by
  have h7:b≠blk:=fun h8=>hnF o (h8 ▸ hf)
  have:=Ra3 (hH.frz b o hf)
  simp only[World.cell?,hold b this h7]
 have hpc:∀ q,q < cc.size→(putCells id 0 (flatK enc t.es sd.toArray) cc)[q]?=if q < n*t.es then some ((enc sd.toArray[q / t.es]!)[q % t.es]!) else cc[q]?:=fun q hq=>by
  simp only[putCells,Array.getElem?_mapIdx,Array.getElem?_eq_getElem hq,Option.map_some,size_flatK,Nat.zero_le,true_and,Nat.zero_add,Nat.sub_zero,id]
  have:sd.toArray.size=n:=by simpa using hsl
  rw[this]
  split
  ·next h7=>rw[get_flatK _ _ _ _ (by rw[this];exact h7)]
  ·rfl
 have hel:(app (bL t sd) (j9 el n)).length=el.length:=by
  rw[C5,List.length_append,← j8 (bL t sd),ua0,hsl,F5,List.length_drop]
  omega
 have hnrow:∀ (j:Nat) r,(app (bL t sd) (j9 el n))[j]?=some r→(j < n∧r=t.row (gL t sd j))∨(n≤j∧el[j]?=some r):=fun j r hr=>by
  have hlb:(bL t sd).length=n:=by rw[← j8,ua0,hsl]
  rw[C5] at hr
  rcases Nat.lt_or_ge j n with h7 | h7
  ·rw[List.getElem?_append_left (by omega)] at hr
   left
   refine⟨h7,?_⟩
   unfold bL at hr
   rw[n8,List.getElem?_map,List.getElem?_eq_getElem (by omega)] at hr
   injection hr with hr
   rw[← hr,hgd sd j (by omega)]
  ·rw[List.getElem?_append_right (by omega),hlb,F5,List.getElem?_drop] at hr
   right
   exact⟨h7,by rw[← hr];congr 1;omega⟩
 have hcs:el.length*t.es≤cc.size:=by have:=hB.len;rw[hsize] at this;exact this
 refine⟨⟨⟨?_,?_,?_,by omega,fun k h7 h8=>hold k h7 fun h9=>h8 (h9 ▸ hW),hcells,?_⟩,fun id b hb=>?_,fun _ _ h=>h,fun _ _ h=>.inl h,fun id b' hb' hn'=>?_⟩,⟨fun id b hb hd'=>?_,fun id id' b b' hb hb' h7 h8 h9 h10=>?_,fun b o hf=>by rw[hcells b o hf];exact hH.frz b o hf,fun k hk'=>hH.new k (by omega)⟩,.ofv _⟩
 ·rw[h6];rfl
 ·rw[h6];rfl
 ·rw[h6];rfl
 ·rw[h6];exact Nat.le_add_right _ _
 ·match id,hb with
  | 0,hb =>
   cases hb
   exact⟨_,rfl,rfl,Nat.le_refl _,fun _=>⟨rfl,rfl,by simp only[hel];exact Nat.le_refl _⟩⟩
 ·match id,hb' with
  | 0,hb'=>cases hb';exact absurd rfl (hn' ⟨et',t.es,el,true,false,0⟩ rfl)
 ·match id,hb with
  | 0,hb =>
   cases hb
   refine⟨_,tt,(0,0),by rw[hbk];exact hnew,?_,?_,?_,?_,fun _=>⟨rfl,by rw[hbk];exact hW,hoff,?_,by rw[hbk];exact hnF,het⟩,fun h=>by cases h⟩
   ·rw[hoff,hsize];simp[putCells]
   ·simp only[hel];exact hB.len
   ·intro j r hr
    rcases hnrow j r hr with⟨_,h8⟩ | ⟨_,h8⟩
    ·rw[h8,← j8];exact t.h0 _
    ·exact hB.rows j r h8
   ·intro j r c x hr hc
    rw[hoff,Nat.zero_add]
    rcases hnrow j r hr with⟨h7,h8⟩ | ⟨h7,h8⟩
    ·subst h8
     have hclt:c < t.es:=by
      have:=(List.getElem?_eq_some_iff.1 hc).1
      rw[← j8,t.h0] at this
      exact this
     have hq:j*t.es+c < n*t.es:=by
      have:=Nat.mul_le_mul_right t.es (show j+1≤n from h7)
      rw[Nat.add_mul,Nat.one_mul] at this
      omega
     have hqn:n*t.es≤el.length*t.es:=Nat.mul_le_mul_right _ hn
     have e1:(j*t.es+c) / t.es=j:=by rw[Nat.mul_comm,Nat.mul_add_div hes,Nat.div_eq_of_lt hclt,Nat.add_zero]
     have e2:(j*t.es+c) % t.es=c:=by rw[Nat.mul_comm,Nat.mul_add_mod,Nat.mod_eq_of_lt hclt]
     rw[he,List.getElem?_map,List.getElem?_eq_getElem (by rw[hk];exact hclt)] at hc
     injection hc with hc
     subst hc
     refine⟨(enc (gL t sd j))[c]'(by rw[hk];exact hclt),?_,.v _ (h1 _ _ (List.getElem_mem _))⟩
     rw[hpc _ (Nat.lt_of_lt_of_le hq (Nat.le_trans hqn hcs)),if_pos hq,e1,e2,tb8 _ _ (by omega),hgd sd j (by omega),getElem!_pos _ _ (by rw[hk];exact hclt)]
    ·obtain⟨x',h9,h10⟩:=hB.cell j r c x h8 hc
     rw[hoff,Nat.zero_add] at h9
     have hq:¬ j*t.es+c < n*t.es:=by
      have:=Nat.mul_le_mul_right t.es h7
      omega
     have hlt':j*t.es+c < cc.size:=(Array.getElem?_eq_some_iff.1 h9).1
     exact⟨x',by rw[hpc _ hlt',if_neg hq];exact h9,h10.adv (fun _ _ h=>h) hcells⟩
   ·rw[hsize];simp[putCells]
 ·match id,hb,id',hb' with
  | 0,hb,0,hb'=>exact absurd rfl h10
end
end Go.Ev.L
namespace Go.Proofs
open Go.Shelf
set_option maxRecDepth 100000 in
def Ce.sortLay_ren:Go.Shelf.Ren:=⟨fun | 6=>33 | 15=>57 | 14=>56 | 28=>83 | 29=>84 | 20=>75 | 21=>76 | 22=>77 | 23=>78 | 24=>79 | 25=>80 | 26=>81 | 27=>82 | 46=>89 | 47=>90 | 48=>91 | 49=>92 | 50=>93 | 57=>94 | n=>n,fun | 22=>29 | 24=>42 | 25=>65 | 3=>3 | 39=>93 | 0=>0 | 53=>114 | 55=>116 | 4=>4 | 46=>107 | 45=>106 | 50=>111 | 5=>5 | 9=>9 | 66=>120 | 70=>124 | 76=>126 | 77=>127 | n=>n,fun | n=>n⟩
set_option maxRecDepth 100000 in
theorem Ce.sortLay:Go.Proofs.SlLaysF0.n6 Try.prog Ce.sortLay_ren:={
 mixed:=by kernel_rfl
 f6:=⟨Try.f33.name,by decide,Try.func33.trans (congrArg some (by kernel_rfl))⟩
 f14:=⟨Try.f56.name,by decide,Try.func56.trans (congrArg some (by kernel_rfl))⟩
 f15:=Try.func57.trans (congrArg some (by kernel_rfl))
 f20:=⟨Try.f75.name,by decide,Try.func75.trans (congrArg some (by kernel_rfl))⟩
 f21:=⟨Try.f76.name,by decide,Try.func76.trans (congrArg some (by kernel_rfl))⟩
 f22:=⟨Try.f77.name,by decide,Try.func77.trans (congrArg some (by kernel_rfl))⟩
 f23:=⟨Try.f78.name,by decide,Try.func78.trans (congrArg some (by kernel_rfl))⟩
 f24:=⟨Try.f79.name,by decide,Try.func79.trans (congrArg some (by kernel_rfl))⟩
 f25:=⟨Try.f80.name,by decide,Try.func80.trans (congrArg some (by kernel_rfl))⟩
 f26:=⟨Try.f81.name,by decide,Try.func81.trans (congrArg some (by kernel_rfl))⟩
 f27:=⟨Try.f82.name,by decide,Try.func82.trans (congrArg some (by kernel_rfl))⟩
 f28:=Try.func83.trans (congrArg some (by kernel_rfl))
 f29:=Try.func84.trans (congrArg some (by kernel_rfl))
 f46:=⟨Try.f89.name,by decide,Try.func89.trans (congrArg some (by kernel_rfl))⟩
 f47:=Try.func90.trans (congrArg some (by kernel_rfl))
 f48:=Try.func91.trans (congrArg some (by kernel_rfl))
 f49:=⟨Try.f92.name,by decide,Try.func92.trans (congrArg some (by kernel_rfl))⟩
 f50:=⟨Try.f93.name,by decide,Try.func93.trans (congrArg some (by kernel_rfl))⟩
 f57:=⟨Try.f94.name,by decide,Try.func94.trans (congrArg some (by kernel_rfl))⟩
 t0:=Try.underlying0
 a0:=Try.isAgg0
 z0:=Try.sizeOf0
 v0:=Try.zeroValue0
 t3:=Try.underlying3
 a3:=Try.isAgg3
 z3:=Try.sizeOf3
 v3:=Try.zeroValue3
 t4:=Try.underlying4
 a4:=Try.isAgg4
 z4:=Try.sizeOf4
 v4:=Try.zeroValue4
 t5:=Try.underlying5
 a5:=Try.isAgg5
 z5:=Try.sizeOf5
 v5:=Try.zeroValue5
 t9:=Try.underlying9
 a9:=Try.isAgg9
 z9:=Try.sizeOf9
 v9:=Try.zeroValue9
 t22:=Try.underlying29
 a22:=Try.isAgg29
 z22:=Try.sizeOf29
 v22:=Try.zeroValue29
 t25:=Try.underlying65
 a25:=Try.isAgg65
 z25:=Try.sizeOf65
 v25:=Try.zeroValue65
 t39:=Try.underlying93
 a39:=Try.isAgg93
 z39:=Try.sizeOf93
 v39:=Try.zeroValue93
 t45:=Try.underlying106
 a45:=Try.isAgg106
 z45:=Try.sizeOf106
 v45:=Try.zeroValue106
 t46:=Try.underlying107
 a46:=Try.isAgg107
 z46:=Try.sizeOf107
 v46:=Try.zeroValue107
 t50:=Try.underlying111
 a50:=Try.isAgg111
 z50:=Try.sizeOf111
 v50:=Try.zeroValue111
 t53:=Try.underlying114
 a53:=Try.isAgg114
 z53:=Try.sizeOf114
 v53:=Try.zeroValue114
 t55:=Try.underlying116
 a55:=Try.isAgg116
 z55:=Try.sizeOf116
 v55:=Try.zeroValue116
 t66:=Try.underlying120
 a66:=Try.isAgg120
 z66:=Try.sizeOf120
 v66:=Try.zeroValue120
 t70:=Try.underlying124
 a70:=Try.isAgg124
 z70:=Try.sizeOf124
 v70:=Try.zeroValue124
 t76:=Try.underlying126
 a76:=Try.isAgg126
 z76:=Try.sizeOf126
 v76:=Try.zeroValue126
 t77:=Try.underlying127
 a77:=Try.isAgg127
 z77:=Try.sizeOf127
 v77:=Try.zeroValue127 }
end Go.Proofs
namespace Go.Ev.Ce
open Go Go.Ev Go.Ev.L Go.Proofs Go.Sort
def tb9 (x y:Int):Int:=if x < y then -1 else if x > y then 1 else 0
def Ka6 (x y:Pln):Int :=
 if tb9 x.n.x y.n.x=0 then if tb9 x.n.y y.n.y=0 then if tb9 x.n.z y.n.z=0 then tb9 x.b y.b else tb9 x.n.z y.n.z else tb9 x.n.y y.n.y else tb9 x.n.x y.n.x
theorem Fb6 (x y:Int):tb9 x y < 0↔x < y:=by unfold tb9;split<;>(try split)<;>omega
theorem dc6 (x y:Int):tb9 x y=0↔x=y:=by unfold tb9;split<;>(try split)<;>omega
def LtP (x y:Pln):Prop:=x.n.x < y.n.x∨x.n.x=y.n.x∧(x.n.y < y.n.y∨x.n.y=y.n.y∧(x.n.z < y.n.z∨x.n.z=y.n.z∧x.b < y.b))
instance (x y:Pln):Decidable (LtP x y):=by unfold LtP;exact inferInstance
theorem Zc8 (x y:Pln):Ka6 x y < 0↔LtP x y:=by
 have h1:=Fb6 x.n.x y.n.x;have h2:=dc6 x.n.x y.n.x
 have h3:=Fb6 x.n.y y.n.y;have h4:=dc6 x.n.y y.n.y
 have h5:=Fb6 x.n.z y.n.z;have h6:=dc6 x.n.z y.n.z
 have h7:=Fb6 x.b y.b
 unfold Ka6 LtP
 split
 ·split
  ·split<;>omega
  ·omega
 ·omega
theorem Ea7 (x y:Pln):ltOf Ka6 x y=decide (LtP x y):=by
 unfold ltOf
 rw[decide_eq_decide]
 exact Zc8 x y
theorem pd3:SWO (ltOf Ka6) where
 irrefl x:=by rw[Ea7];simp[LtP]
 trans x y z h1 h2:=by rw[Ea7,decide_eq_true_eq] at *;unfold LtP at *;omega
 ntrans x y z h1 h2:=by rw[Ea7,decide_eq_false_iff_not] at *;unfold LtP at *;omega
theorem pd4 (x y:Pln) (h1:ltOf Ka6 x y=false) (h2:ltOf Ka6 y x=false):x=y:=by
 rw[Ea7,decide_eq_false_iff_not] at *
 unfold LtP at *
 obtain⟨⟨a,b,c⟩,d⟩:=x;obtain⟨⟨a',b',c'⟩,d'⟩:=y
 simp only at *
 have:a=a'∧b=b'∧c=c'∧d=d':=by omega
 obtain⟨rfl,rfl,rfl,rfl⟩:=this
 rfl
theorem oc4 (x y:Int):na2 x y=some (i (tb9 x y),[]):=by
 unfold na2 tb9
 simp only[lb9,decide_eq_true_eq]
 split<;>(try split)<;>rfl
theorem Zc9 (x y:Int):aa0 x y=tb9 x y:=by unfold aa0;rw[oc4];rfl
theorem ad1 (x y:Int):aa1 x y=true:=by unfold aa1;rw[oc4];rfl
theorem Ob0 (x y:Pln):fa1 x y=some (i (Ka6 x y),[]):=by
 unfold fa1 Ka6
 simp only[Zc9,ad1,lb9,beq_iff_eq,if_true]
 repeat' (first | rfl | split)
theorem pd5 (x y:Pln):na9 x y=Ka6 x y:=by unfold na9;rw[Ob0];rfl
theorem pd6 (x y:Pln):oa0 x y=true:=by unfold oa0;rw[Ob0];rfl
theorem pd7 (x y:Pln):(Ba4 [.agg (tP.row x),.agg (tP.row y)] []).run=some (i (Ka6 x y),[]):=by
 have:(Ba4 [.agg (tP.row x),.agg (tP.row y)] []).run=sel (oa0 x y) (some (i (na9 x y),[])) none:=by kernel_rfl
 rw[this,pd6,pd5]
def xb4 (p:Pln):List Value:=[.int .i64 p.n.x,.int .i64 p.n.y,.int .i64 p.n.z,.int .i64 p.b]
instance:Inhabited Pln:=⟨⟨⟨0,0,0⟩,0⟩⟩
def Wa8 (l:List Pln):List Pln:=l.mergeSort fun x y=>!ltOf Ka6 y x
theorem Wb7 (l:List Pln):(Wa8 l).length=l.length:=List.length_mergeSort l
noncomputable def pa4:Sum:=Qc3 tP 34 42 Wa8
theorem Qc4:Ce.sortLay_ren.f 6=33:=by kernel_rfl
theorem Wb8:Ce.sortLay_ren.t 24=42:=by kernel_rfl
set_option maxRecDepth 100000 in
theorem Oa7:j7 prog G 33 pa4:=by
 refine Zc7 (enc:=xb4) (cf:=Ka6) ⟨_,Try.func33,by kernel_rfl,of_decide_eq_true (by kernel_rfl)⟩ (by decide) (fun _=>rfl) (fun r h=>ua1 (n:=4) h) (fun x v hv=>?_) Wb7
  (fun blk off size w=>Zc6 yb9 pd7 (fun _=>rfl) (fun _=>rfl) _ _ _ _ _) (fun blk cap d w hcl hH hb hs=>?_)
 ·simp[xb4] at hv
  rcases hv with rfl | rfl | rfl | rfl<;>rfl
 ·have eg:∀ args w,(callFunc 34 args).run Try.prog w=.ok (.enter 34 args) w:=enters_of Try.func34 (by kernel_rfl) rfl
  have:=AnyQ.slices_SortFunc Ce.sortLay 4 (by rw[Wb8];exact Try.isAgg42) (by rw[Wb8];exact Try.sizeOf42) xb4 (fun _=>rfl) (fun x v hv=>by simp[xb4] at hv;rcases hv with rfl | rfl | rfl | rfl<;>rfl) Ka6 pd3 34 #[] blk 0 cap d w eg (hcl 0 d.size) hH hb hs
  rw[Qc4] at this
  refine this.mono fun e w' ⟨h1,d',n,os,h2,h3,h4⟩=>⟨h1,n,os,?_⟩
  have h5:=sorted_unique_holds pd3 pd4 d d' h2 h3
  rw[h4]
  show _=sortWorldK xb4 4 w blk 0 n (d.toList.mergeSort fun x y=>!ltOf Ka6 y x).toArray os
  rw[← h5]
end Go.Ev.Ce
section
namespace Go.Ev.Ce
open Go Go.Ev Go.Ev.L Go.Proofs
set_option maxRecDepth 100000
noncomputable def Xa5:List (Nat×Sum):=[]
theorem Va5:o9 prog G Xa5:=trivial
structure Z0 where
 alt:Nat
 ns0:Nat
 eh0:List (List a7)
noncomputable def J8 {α:Type} (kk:Z0→α) (x:Pln×List Pln):α:=(sl (Nat.beq (len (o2 (fun k=>(tP).row (gL tP (x.1::x.2) k)) (List.range (List.length x.2+1)))) 0) (kk ⟨1,0,[]⟩) (sl (Nat.beq 0 0&&Nat.ble ((0+(len (o2 (fun k=>(tP).row (gL tP (x.1::x.2) k)) (List.range (List.length x.2+1)))))*32) room) (kk ⟨1,(0+(len (o2 (fun k=>(tP).row (gL tP (x.1::x.2) k)) (List.range (List.length x.2+1))))),(app [] (o2 (fun k=>(tP).row (gL tP (x.1::x.2) k)) (List.range (List.length x.2+1))))⟩) (kk ⟨0,0,[]⟩)))
noncomputable def Z1 (x:Pln×List Pln):Z0:=J8 (fun r=>r) x
noncomputable def ha0 (r:Z0):DT (a7×List a8):=(.ite (Nat.beq r.alt 1) (.ret ((.sl 0 0 r.ns0 0),[⟨42,4,r.eh0,true,false,0⟩])) .fail)
theorem db5 {α β:Type} (F:α→β) (kk:Z0→α) (x:Pln×List Pln):F (J8 kk x)=J8 (fun r=>F (kk r)) x:=by unfold J8;(repeat' apply C7 (f:=F))<;>rfl
noncomputable def ya5:Sum:=wa5 (nd1 tP) (fun x=>ha0 (Z1 x))
theorem Xa6:j7 prog G 30 ya5:=Eb7 (bd b30 Va5) fun x=>J5 (Eq.trans (b:=J8 (fun r=>(ha0 r).run) x) (by kernel_rfl) (db5 (fun r=>(ha0 r).run) (fun r=>r) x).symm)
noncomputable def dc7:List (Nat×Sum):=[(20,ya2),(9,ga1),(30,ya5),(29,la2),(33,pa4),(35,sa5)]
theorem Sb1:o9 prog G dc7:=⟨Da7,ia9,Xa6,Ha6,Oa7,Qa9,trivial⟩
noncomputable def ya6 (x:Pln×List Pln):Option (a7×List a8):=let t1:=(da6 (rt tP (x.1::x.2)));let t2:=(O3 (rt tP (x.1::x.2)));let t3:=(Z1 (hC tP (fun k=>(tP).row (gL tP (x.1::x.2) k)),tC tP (List.length x.2) (fun k=>(tP).row (gL tP (x.1::x.2) k))));let t4:=(M4 ⟨t3.ns0,t3.eh0,(rt tX t2)⟩);let t5:=(U0 ⟨t4.ns0,(app (bL tP (Wa8 (slR tP t4.eh0 0 t4.ns0))) (j9 t4.eh0 t4.ns0))⟩);(sl (okE tP (x.1::x.2)) (sl (da7 (rt tP (x.1::x.2))) (sl (!t1) (some ((.v (.slice none 0 0)),[])) (sl (okE tP (x.1::x.2)) (sl (O4 (rt tP (x.1::x.2))) (sl (okL tP (List.length x.2+1) (fun k=>(tP).row (gL tP (x.1::x.2) k))) (sl (Nat.beq t3.alt 1) (sl ((cnE tX t2)&&true) (sl (Nat.beq t4.alt 1) (sl (Bool.and (Nat.ble t4.ns0 room) (Bool.and (Nat.ble t4.ns0 (len t4.eh0)) (okS tP t4.eh0 0 t4.ns0))) (sl (Nat.beq t5.alt 1) (some ((.sl 0 0 t5.ns0 0),[⟨42,4,t5.eh0,true,false,0⟩])) none) none) none) none) none) none) none) none)) none) none)
noncomputable def ya7 (x:Pln×List Pln):List Pln:=la8 (one (r1L tP)) (ya6 x)
noncomputable def ya8 (x:Pln×List Pln):Bool:=okO (one (r1L tP)) (ya6 x)
noncomputable def db6:Sum:=wa5 (nd1 tP) (fun x=>.guard (ya8 x) (.ret ((one (r1L tP)).enc (ya7 x),[])))
theorem ub0:j7 prog G 10 db6:=hb6 (bd b10 Sb1) (one (r1L tP)) (o:=ya6) fun x=>J5 (by kernel_rfl)
noncomputable def Db6:List (Nat×Sum):=[(21,tb7),(9,ga1),(22,Qa8),(10,db6),(23,Nb3),(20,ya2),(14,nb2),(8,Ua4),(12,Va2),(13,Oa5),(19,Ua0)]
theorem zb2:o9 prog G Db6:=⟨Sb0,ia9,tb1,ub0,nc0,Da7,Bb2,jb9,kb2,db3,jb7,trivial⟩
noncomputable def ja5  : Option (a7×List a8):=let t1:=Va4;let t2:=(O3 [(⟨(⟨1,0,0⟩:V3),t1.c8⟩:Pln),(⟨(⟨(-1),0,0⟩:V3),t1.d8⟩:Pln),(⟨(⟨0,1,0⟩:V3),t1.d9⟩:Pln),(⟨(⟨0,(-1),0⟩:V3),t1.e7⟩:Pln),(⟨(⟨0,0,1⟩:V3),t1.e8⟩:Pln),(⟨(⟨0,0,(-1)⟩:V3),t1.f0⟩:Pln)]);let t3:=(O3 [(⟨(⟨(-1),0,0⟩:V3),0⟩:Pln),(⟨(⟨0,(-1),0⟩:V3),0⟩:Pln),(⟨(⟨0,0,(-1)⟩:V3),0⟩:Pln),(⟨(⟨2,3,4⟩:V3),1⟩:Pln)]);let t4:=(ca7 (rt tX t2) [(⟨1,1,1,1⟩:Pt),(⟨1,1,0,1⟩:Pt),(⟨1,0,1,1⟩:Pt),(⟨1,0,0,1⟩:Pt),(⟨0,1,1,1⟩:Pt),(⟨0,1,0,1⟩:Pt),(⟨0,0,1,1⟩:Pt),(⟨0,0,0,1⟩:Pt)]);let t5:=(ca7 (rt tX t3) [(⟨0,0,0,1⟩:Pt),(⟨0,0,1,4⟩:Pt),(⟨0,1,0,3⟩:Pt),(⟨1,0,0,2⟩:Pt)]);let t6:=(ya7 ((⟨(⟨1,0,0⟩:V3),t1.c8⟩:Pln),[(⟨(⟨(-1),0,0⟩:V3),t1.d8⟩:Pln),(⟨(⟨0,1,0⟩:V3),t1.d9⟩:Pln),(⟨(⟨0,(-1),0⟩:V3),t1.e7⟩:Pln),(⟨(⟨0,0,1⟩:V3),t1.e8⟩:Pln),(⟨(⟨0,0,(-1)⟩:V3),t1.f0⟩:Pln),(⟨(⟨1,0,0⟩:V3),t1.c8⟩:Pln),(⟨(⟨1,1,1⟩:V3),3⟩:Pln),(⟨(⟨1,0,0⟩:V3),7⟩:Pln)]));let t7:=(Ua7 (rt tP t6) [(⟨(⟨(-1),0,0⟩:V3),t1.d8⟩:Pln),(⟨(⟨0,(-1),0⟩:V3),t1.e7⟩:Pln),(⟨(⟨0,0,(-1)⟩:V3),t1.f0⟩:Pln),(⟨(⟨0,0,1⟩:V3),t1.e8⟩:Pln),(⟨(⟨0,1,0⟩:V3),t1.d9⟩:Pln),(⟨(⟨1,0,0⟩:V3),t1.c8⟩:Pln)]);let t8:=(da6 []);let t9:=(da6 [(⟨(⟨1,0,0⟩:V3),t1.c8⟩:Pln),(⟨(⟨(-1),0,0⟩:V3),t1.d8⟩:Pln),(⟨(⟨0,1,0⟩:V3),t1.d9⟩:Pln),(⟨(⟨0,(-1),0⟩:V3),t1.e7⟩:Pln),(⟨(⟨0,0,1⟩:V3),t1.e8⟩:Pln),(⟨(⟨0,0,(-1)⟩:V3),t1.f0⟩:Pln),(⟨(⟨(-1),0,0⟩:V3),(-1)⟩:Pln)]);let t10:=(oa8 [(⟨(⟨1,0,0⟩:V3),t1.c8⟩:Pln),(⟨(⟨(-1),0,0⟩:V3),t1.d8⟩:Pln),(⟨(⟨0,1,0⟩:V3),t1.d9⟩:Pln),(⟨(⟨0,(-1),0⟩:V3),t1.e7⟩:Pln),(⟨(⟨0,0,1⟩:V3),t1.e8⟩:Pln),(⟨(⟨0,0,(-1)⟩:V3),t1.f0⟩:Pln)] (⟨1,0,0⟩:V3));let t11:=(oa8 [(⟨(⟨1,0,0⟩:V3),t1.c8⟩:Pln),(⟨(⟨(-1),0,0⟩:V3),t1.d8⟩:Pln),(⟨(⟨0,1,0⟩:V3),t1.d9⟩:Pln),(⟨(⟨0,(-1),0⟩:V3),t1.e7⟩:Pln),(⟨(⟨0,0,1⟩:V3),t1.e8⟩:Pln),(⟨(⟨0,0,(-1)⟩:V3),t1.f0⟩:Pln)] (⟨2,0,0⟩:V3));let t12:=(sa1 [(⟨(⟨(-1),0,0⟩:V3),0⟩:Pln),(⟨(⟨0,(-1),0⟩:V3),0⟩:Pln),(⟨(⟨0,0,(-1)⟩:V3),0⟩:Pln),(⟨(⟨2,3,4⟩:V3),1⟩:Pln)]);let t13:=(ea1 [(⟨(⟨1,0,0⟩:V3),t1.c8⟩:Pln),(⟨(⟨(-1),0,0⟩:V3),t1.d8⟩:Pln),(⟨(⟨0,1,0⟩:V3),t1.d9⟩:Pln),(⟨(⟨0,(-1),0⟩:V3),t1.e7⟩:Pln),(⟨(⟨0,0,1⟩:V3),t1.e8⟩:Pln),(⟨(⟨0,0,(-1)⟩:V3),t1.f0⟩:Pln)] [(⟨(⟨(-1),0,0⟩:V3),(-1)⟩:Pln)]);let t14:=(ea1 [(⟨(⟨1,0,0⟩:V3),t1.c8⟩:Pln),(⟨(⟨(-1),0,0⟩:V3),t1.d8⟩:Pln),(⟨(⟨0,1,0⟩:V3),t1.d9⟩:Pln),(⟨(⟨0,(-1),0⟩:V3),t1.e7⟩:Pln),(⟨(⟨0,0,1⟩:V3),t1.e8⟩:Pln),(⟨(⟨0,0,(-1)⟩:V3),t1.f0⟩:Pln)] [(⟨(⟨(-1),(-1),0⟩:V3),(-1)⟩:Pln)]);let t15:=(aa2 [(⟨(⟨1,0,0⟩:V3),t1.c8⟩:Pln),(⟨(⟨(-1),0,0⟩:V3),t1.d8⟩:Pln),(⟨(⟨0,1,0⟩:V3),t1.d9⟩:Pln),(⟨(⟨0,(-1),0⟩:V3),t1.e7⟩:Pln),(⟨(⟨0,0,1⟩:V3),t1.e8⟩:Pln),(⟨(⟨0,0,(-1)⟩:V3),t1.f0⟩:Pln)] [(⟨(⟨1,1,1⟩:V3),3⟩:Pln)]);let t16:=(aa2 [(⟨(⟨1,0,0⟩:V3),t1.c8⟩:Pln),(⟨(⟨(-1),0,0⟩:V3),t1.d8⟩:Pln),(⟨(⟨0,1,0⟩:V3),t1.d9⟩:Pln),(⟨(⟨0,(-1),0⟩:V3),t1.e7⟩:Pln),(⟨(⟨0,0,1⟩:V3),t1.e8⟩:Pln),(⟨(⟨0,0,(-1)⟩:V3),t1.f0⟩:Pln)] [(⟨(⟨1,1,1⟩:V3),2⟩:Pln)]);let t17:=(ra3 [(⟨(⟨0,0,0⟩:V3),0⟩:Pln)]);(sl (O4 [(⟨(⟨1,0,0⟩:V3),t1.c8⟩:Pln),(⟨(⟨(-1),0,0⟩:V3),t1.d8⟩:Pln),(⟨(⟨0,1,0⟩:V3),t1.d9⟩:Pln),(⟨(⟨0,(-1),0⟩:V3),t1.e7⟩:Pln),(⟨(⟨0,0,1⟩:V3),t1.e8⟩:Pln),(⟨(⟨0,0,(-1)⟩:V3),t1.f0⟩:Pln)]) (sl (O4 [(⟨(⟨(-1),0,0⟩:V3),0⟩:Pln),(⟨(⟨0,(-1),0⟩:V3),0⟩:Pln),(⟨(⟨0,0,(-1)⟩:V3),0⟩:Pln),(⟨(⟨2,3,4⟩:V3),1⟩:Pln)]) (sl (okE tX t2) (sl (ca8 (rt tX t2) [(⟨1,1,1,1⟩:Pt),(⟨1,1,0,1⟩:Pt),(⟨1,0,1,1⟩:Pt),(⟨1,0,0,1⟩:Pt),(⟨0,1,1,1⟩:Pt),(⟨0,1,0,1⟩:Pt),(⟨0,0,1,1⟩:Pt),(⟨0,0,0,1⟩:Pt)]) (sl (!t4) (some ((b false),[])) (sl (okE tX t3) (sl (ca8 (rt tX t3) [(⟨0,0,0,1⟩:Pt),(⟨0,0,1,4⟩:Pt),(⟨0,1,0,3⟩:Pt),(⟨1,0,0,2⟩:Pt)]) (sl (!t5) (some ((b false),[])) (sl (ya8 ((⟨(⟨1,0,0⟩:V3),t1.c8⟩:Pln),[(⟨(⟨(-1),0,0⟩:V3),t1.d8⟩:Pln),(⟨(⟨0,1,0⟩:V3),t1.d9⟩:Pln),(⟨(⟨0,(-1),0⟩:V3),t1.e7⟩:Pln),(⟨(⟨0,0,1⟩:V3),t1.e8⟩:Pln),(⟨(⟨0,0,(-1)⟩:V3),t1.f0⟩:Pln),(⟨(⟨1,0,0⟩:V3),t1.c8⟩:Pln),(⟨(⟨1,1,1⟩:V3),3⟩:Pln),(⟨(⟨1,0,0⟩:V3),7⟩:Pln)])) (sl (okE tP t6) (sl (Ua8 (rt tP t6) [(⟨(⟨(-1),0,0⟩:V3),t1.d8⟩:Pln),(⟨(⟨0,(-1),0⟩:V3),t1.e7⟩:Pln),(⟨(⟨0,0,(-1)⟩:V3),t1.f0⟩:Pln),(⟨(⟨0,0,1⟩:V3),t1.e8⟩:Pln),(⟨(⟨0,1,0⟩:V3),t1.d9⟩:Pln),(⟨(⟨1,0,0⟩:V3),t1.c8⟩:Pln)]) (sl (!t7) (some ((b false),[])) (sl (da7 []) (sl (!t8) (some ((b false),[])) (sl (da7 [(⟨(⟨1,0,0⟩:V3),t1.c8⟩:Pln),(⟨(⟨(-1),0,0⟩:V3),t1.d8⟩:Pln),(⟨(⟨0,1,0⟩:V3),t1.d9⟩:Pln),(⟨(⟨0,(-1),0⟩:V3),t1.e7⟩:Pln),(⟨(⟨0,0,1⟩:V3),t1.e8⟩:Pln),(⟨(⟨0,0,(-1)⟩:V3),t1.f0⟩:Pln),(⟨(⟨(-1),0,0⟩:V3),(-1)⟩:Pln)]) (sl t9 (some ((b false),[])) (sl (W5 [(⟨(⟨1,0,0⟩:V3),t1.c8⟩:Pln),(⟨(⟨(-1),0,0⟩:V3),t1.d8⟩:Pln),(⟨(⟨0,1,0⟩:V3),t1.d9⟩:Pln),(⟨(⟨0,(-1),0⟩:V3),t1.e7⟩:Pln),(⟨(⟨0,0,1⟩:V3),t1.e8⟩:Pln),(⟨(⟨0,0,(-1)⟩:V3),t1.f0⟩:Pln)] (⟨1,0,0⟩:V3)) (sl (!t10) (some ((b false),[])) (sl (W5 [(⟨(⟨1,0,0⟩:V3),t1.c8⟩:Pln),(⟨(⟨(-1),0,0⟩:V3),t1.d8⟩:Pln),(⟨(⟨0,1,0⟩:V3),t1.d9⟩:Pln),(⟨(⟨0,(-1),0⟩:V3),t1.e7⟩:Pln),(⟨(⟨0,0,1⟩:V3),t1.e8⟩:Pln),(⟨(⟨0,0,(-1)⟩:V3),t1.f0⟩:Pln)] (⟨2,0,0⟩:V3)) (sl t11 (some ((b false),[])) (sl (sa2 [(⟨(⟨(-1),0,0⟩:V3),0⟩:Pln),(⟨(⟨0,(-1),0⟩:V3),0⟩:Pln),(⟨(⟨0,0,(-1)⟩:V3),0⟩:Pln),(⟨(⟨2,3,4⟩:V3),1⟩:Pln)]) (sl (!((t12.1.x==0)&&((t12.1.y==0)&&((t12.1.z==0)&&true)))) (some ((b false),[])) (sl (!((t12.2.1.x==1)&&((t12.2.1.y==1)&&((t12.2.1.z==1)&&true)))) (some ((b false),[])) (sl (!t12.2.2) (some ((b false),[])) (sl (E7 [(⟨(⟨1,0,0⟩:V3),t1.c8⟩:Pln),(⟨(⟨(-1),0,0⟩:V3),t1.d8⟩:Pln),(⟨(⟨0,1,0⟩:V3),t1.d9⟩:Pln),(⟨(⟨0,(-1),0⟩:V3),t1.e7⟩:Pln),(⟨(⟨0,0,1⟩:V3),t1.e8⟩:Pln),(⟨(⟨0,0,(-1)⟩:V3),t1.f0⟩:Pln)] [(⟨(⟨(-1),0,0⟩:V3),(-1)⟩:Pln)]) (sl t13 (sl (E7 [(⟨(⟨1,0,0⟩:V3),t1.c8⟩:Pln),(⟨(⟨(-1),0,0⟩:V3),t1.d8⟩:Pln),(⟨(⟨0,1,0⟩:V3),t1.d9⟩:Pln),(⟨(⟨0,(-1),0⟩:V3),t1.e7⟩:Pln),(⟨(⟨0,0,1⟩:V3),t1.e8⟩:Pln),(⟨(⟨0,0,(-1)⟩:V3),t1.f0⟩:Pln)] [(⟨(⟨(-1),(-1),0⟩:V3),(-1)⟩:Pln)]) (sl (!t14) (sl (A2 [(⟨(⟨1,0,0⟩:V3),t1.c8⟩:Pln),(⟨(⟨(-1),0,0⟩:V3),t1.d8⟩:Pln),(⟨(⟨0,1,0⟩:V3),t1.d9⟩:Pln),(⟨(⟨0,(-1),0⟩:V3),t1.e7⟩:Pln),(⟨(⟨0,0,1⟩:V3),t1.e8⟩:Pln),(⟨(⟨0,0,(-1)⟩:V3),t1.f0⟩:Pln)] [(⟨(⟨1,1,1⟩:V3),3⟩:Pln)]) (sl t15 (sl (A2 [(⟨(⟨1,0,0⟩:V3),t1.c8⟩:Pln),(⟨(⟨(-1),0,0⟩:V3),t1.d8⟩:Pln),(⟨(⟨0,1,0⟩:V3),t1.d9⟩:Pln),(⟨(⟨0,(-1),0⟩:V3),t1.e7⟩:Pln),(⟨(⟨0,0,1⟩:V3),t1.e8⟩:Pln),(⟨(⟨0,0,(-1)⟩:V3),t1.f0⟩:Pln)] [(⟨(⟨1,1,1⟩:V3),2⟩:Pln)]) (sl (!t16) (sl (ra4 [(⟨(⟨0,0,0⟩:V3),0⟩:Pln)]) (some ((b (t17==12)),[])) none) (some ((b false),[]))) none) (some ((b false),[]))) none) (some ((b false),[]))) none) (some ((b false),[]))) none)))) none)) none)) none)) none)) none)) none) none) none)) none) none)) none) none) none) none)
noncomputable def sa8  : Bool:=la8 (one r1B) ja5
noncomputable def sa9  : Bool:=okO (one r1B) ja5
noncomputable def db7:Sum:=ic5  (.guard sa9 (.ret ((one r1B).enc sa8,[])))
theorem Db7:j7 prog G 5 db7:=rd3 (bd b5 zb2) (one r1B) (o:=ja5) (J5 (by kernel_rfl))
end Go.Ev.Ce
end
namespace Go.Ev.Ce
open Go Go.Ev Go.Ev.L Go.Proofs
noncomputable def onc (X:List Pt) (p:Pln):Nat:=X.countP fun x=>rm p x==0
noncomputable def keep (X:List Pt) (p:Pln):Bool:=!decide ((onc X p:Int) < 3)
theorem Ob1 (p:Pln) (X:List Pt) (hX:X.length≤1000000000):Z7 ⟨p.n.x,p.n.y,p.n.z,p.b,X⟩=⟨1,!keep X p,X⟩:=by
 have h:=Fb0 (step:=ca9 ⟨X,(X.length:Int),X,p.n.x,p.n.y,p.n.z,p.b⟩) (mk:=fun j (n:Nat)=>(⟨(n:Int),(j:Int)⟩:I9)) (f:=fun n x=>if rm p x==0 then n+1 else n) (fin:=1) tX X (fun j n=>n≤j) hX
  (fun j n hj hi=>by
   have hW:W ((n:Int)+1)=((n+1:Nat):Int):=by rw[Ca9 (by omega) (by omega)];omega
   refine⟨?_,by show (if rm p (gL tX X j)==0 then n+1 else n)≤j+1;split<;>omega⟩
   simp only[ca9,Y9,Int.toNat_natCast,bc9,hW,N2 hj (show X.length≤4611686018427387904 by omega)]
   rw[btD (O5 hj),bt (q9 hj)]
   cases rm p (gL tX X j)==0<;>rfl)
  (fun n _=>by simp only[ca9,Y9];rw[bfD (sa3 (Nat.lt_irrefl _))]) 0 (Nat.zero_le _) 0 (Nat.le_refl _)
 have h:=h.1
 have e:∀ (l:List Pt) (n:Nat),l.foldl (fun n x=>if rm p x==0 then n+1 else n) n=n+l.countP fun x=>rm p x==0:=by
  intro l
  induction l with
  | nil=>intro n;rfl
  | cons x l ih =>
   intro n
   rw[List.foldl_cons,ih,List.countP_cons]
   split<;>omega
 rw[List.drop_zero,e,Nat.zero_add] at h
 unfold Z7 ga3 keep onc
 simp only[G6,K4]
 rw[show (⟨0,0⟩:I9)=⟨((0:Nat):Int),((0:Nat):Int)⟩ from rfl,h]
 show ga2.mk 1 (decide _) X=ga2.mk 1 (!(!(decide _))) X
 rw[Bool.not_not]
theorem ad2 (l:List Pln) (X:List Pt) (hl:l.length≤1000000000) (hX:X.length≤1000000000):M1 ⟨l.length,bL tP l,X⟩=⟨1,if l.any (fun p=>!keep X p) then ((l.findIdx (fun p=>!keep X p):Nat):Int) else -1,X⟩:=by
 have h:=Sa8 (step:=D4 ⟨l.length,(l.length:Int),bL tP l⟩) (mk:=fun j=>(⟨(j:Int),X⟩:l7)) (c:=fun p=>!keep X p) (u:=1) (fin:=2) tP l hl
  (fun j hj=>by
   simp only[D4,A9,Int.toNat_natCast,G6,K4,Fb5 hj,tb4 hj,Ob1 _ _ hX,N2 hj (show l.length≤4611686018427387904 by omega)]
   rw[btD (O5 hj),bt (q9 hj)]
   rfl)
  (by simp only[D4,A9];rw[bfD (sa3 (Nat.lt_irrefl _))]) 0 (Nat.zero_le _)
 rw[List.drop_zero] at h
 unfold M1 B9
 simp only[G6,K4]
 rw[show (⟨0,X⟩:l7)=⟨((0:Nat):Int),X⟩ from rfl,h]
 cases ha:l.any fun p=>!keep X p with
 | false=>rfl
 | true =>
  have hf:l.findIdx (fun p=>!keep X p) < l.length:=by
   rw[List.any_eq_true] at ha
   obtain⟨p,hp,hc⟩:=ha
   exact List.findIdx_lt_length_of_exists ⟨p,hp,hc⟩
  simp only[if_true,Nat.zero_add,Int.toNat_natCast,tb4 hf,Ob1 _ _ hX,G6]
  rfl
theorem ub1 {α:Type} (c:α→Bool):∀ l:List α,(l.take (l.findIdx c)).filter (fun x=>!c x)=l.take (l.findIdx c)
 | []=>rfl
 | x::l=>by
  rw[List.findIdx_cons]
  cases h:c x with
  | true=>rfl
  | false =>
   simp only[cond_false,List.take_succ_cons,List.filter_cons,h,Bool.not_false,if_true]
   rw[ub1 c l]
theorem vc8 {α:Type} (l:List α) (j:Nat) (h:j < l.length):l.take (j+1)=l.take j++[l[j]]:=by rw[List.take_succ_eq_append_getElem h]
theorem dc8 {α:Type} (t:Ty α) {l:List α} {j:Nat} (h:j < l.length):l.take (j+1)=l.take j++[gL t l j]:=by rw[vc8 l j h,qb8 t h]
theorem zb3 {α:Type} (t:Ty α) {l r:List α} {j:Nat} (h:l.drop j=r.drop j):gL t l j=gL t r j:=by
 have h1:=Fb4 t l j 0
 have h2:=Fb4 t r j 0
 rw[Nat.add_zero] at h1 h2
 rw[← h1,← h2,h]
theorem ub2 {α:Type} {l r:List α} {j:Nat} (h:l.drop j=r.drop j) (k:Nat):l.drop (j+k)=r.drop (j+k):=by rw[← List.drop_drop,← List.drop_drop,h]
structure Del (l:List Pln) (f:Pln→Bool) (cur:List Pln) (m j:Nat):Prop where
 len:cur.length=l.length
 t:cur.take m=(l.take j).filter f
 d:cur.drop j=l.drop j
 le:m≤j
 lm:m≤l.length
theorem oc5 (l : List Pln) (X : List Pt) (hl : l.length ≤ 1000000000) (hX : X.length ≤ 1000000000) (m j : Nat) (cur : List Pln) (hd : Del l (keep X) cur m j) :
  ∃ t s,lp (w8 ⟨l.length⟩) ⟨(m:Int),(j:Int),bL tP cur,X⟩=(t,s)∧(t=1∧∃ m' cur' k,s=⟨((m':Nat):Int),((k:Nat):Int),bL tP cur',X⟩∧Del l (keep X) cur' m' k∧l.length≤k):=by
 refine cc9 (step:=w8 ⟨l.length⟩) (mk:=fun j (x:Nat×List Pln)=>(⟨(x.1:Int),(j:Int),bL tP x.2,X⟩:n9)) l.length (fun j x=>Del l (keep X) x.2 x.1 j) (fun t s=>t=1∧∃ m' cur' k,s=⟨((m':Nat):Int),((k:Nat):Int),bL tP cur',X⟩∧Del l (keep X) cur' m' k∧l.length≤k) hl (fun j x hj hx=>?_) (fun j x hj hx=>?_) j (m,cur) hd
 ·obtain⟨m,cur⟩:=x
  obtain⟨h1,h2,h3,h4,h5⟩:=hx
  simp only at h1 h2 h3 h4 h5
  have hjc:j < cur.length:=by omega
  have hmc:m < cur.length:=by omega
  have hg:gL tP cur j=gL tP l j:=zb3 tP h3
  have hWm:W ((m:Int)+1)=((m+1:Nat):Int):=by rw[Ca9 (by omega) (by omega)];omega
  have hb:Nat.blt m cur.length=true:=by rw[Nat.blt_eq];exact hmc
  have hrow:r8 (bL tP cur) m=tP.row (gL tP cur m):=fa8 tP hmc
  have sp:∀ (v:Pln) (x1 x2 x3 x4:Int),ba1 (tP.row v) 0 [i x1,i x2,i x3,i x4]=tP.row ⟨⟨x1,x2,x3⟩,x4⟩:=fun _ _ _ _ _=>rfl
  have rl:∀ v:Pln,Nat.ble (0+4) (len (tP.row v))=true:=fun _=>rfl
  simp only[w8,B0,Int.toNat_natCast,G6,K4,Fb5 hjc,tb4 hjc,Ob1 _ _ hX,N2 hj (show l.length≤4611686018427387904 by omega),hWm]
  rw[btD (O5 hj),bt (q9 hj)]
  simp only[Nat.zero_add,hrow,ua0,hb,sp,jc0,q9 (show m < l.length by omega),hg]
  have ht:=dc8 tP hj
  have hd1:cur.drop (j+1)=l.drop (j+1):=ub2 h3 1
  cases hk:keep X (gL tP l j) with
  | true =>
   refine .nx ⟨(m+1,cur.set m (gL tP l j)),rfl,⟨by rw[List.length_set];exact h1,?_,?_,by omega,by show m+1≤l.length;omega⟩⟩
   ·show (cur.set m (gL tP l j)).take (m+1)=_
    rw[ht,List.filter_append,List.take_succ_eq_append_getElem (by rw[List.length_set];exact hmc),List.getElem_set_self,List.take_set_of_le (Nat.le_refl _),h2,List.filter_cons,hk,if_pos rfl,List.filter_nil]
   ·show (cur.set m (gL tP l j)).drop (j+1)=_
    rw[List.drop_set_of_lt (by omega),hd1]
  | false =>
   refine .nx ⟨(m,cur),rfl,⟨h1,?_,hd1,by omega,h5⟩⟩
   show cur.take m=_
   rw[ht,List.filter_append,h2,List.filter_cons,hk,if_neg (by simp),List.filter_nil,List.append_nil]
 ·obtain⟨m,cur⟩:=x
  refine⟨1,?_,rfl,m,cur,j,rfl,hx,hj⟩
  simp only[w8,B0]
  rw[bfD (by omega)]
theorem Ac6 (l:List Pln) (n:Nat):E9 (bL tP l) n=bL tP (l.take n):=by unfold bL;rw[F4,n8,n8,List.map_take]
theorem dc9 (l:List Pln) (n:Nat):j9 (bL tP l) n=bL tP (l.drop n):=by unfold bL;rw[F5,n8,n8,List.map_drop]
theorem Ac7 (n:Nat):List.replicate n [i 0,i 0,i 0,i 0]=bL tP (List.replicate n ⟨⟨0,0,0⟩,0⟩):=by unfold bL;rw[n8,List.map_replicate];rfl
theorem Gc7 (l : List Pln) (X : List Pt) (hl : l.length ≤ 1000000000) (hX : X.length ≤ 1000000000) :
  ∃ m r,M4 ⟨l.length,bL tP l,X⟩=⟨1,m,bL tP r,X⟩∧m≤r.length∧r.take m=l.filter (keep X)∧r.length=l.length:=by
 unfold M4 C0
 simp only[G6,K4,ad2 l X hl hX]
 cases ha:l.any fun p=>!keep X p with
 | false =>
  refine⟨l.length,l,rfl,Nat.le_refl _,?_,rfl⟩
  rw[List.take_length]
  symm
  rw[List.filter_eq_self]
  intro p hp
  have:=List.any_eq_false.1 ha p hp
  simpa using this
 | true =>
  have hf:l.findIdx (fun p=>!keep X p) < l.length:=by
   rw[List.any_eq_true] at ha
   obtain⟨p,hp,hc⟩:=ha
   exact List.findIdx_lt_length_of_exists ⟨p,hp,hc⟩
  have hk:keep X (gL tP l (l.findIdx fun p=>!keep X p))=false:=by
   have:=List.findIdx_getElem (xs:=l) (p:=fun p=>!keep X p) (w:=hf)
   rw[qb8 tP hf]
   simpa using this
  have ht:=ub1 (fun p=>!keep X p) l
  simp only[Bool.not_not] at ht
  generalize hF:l.findIdx (fun p=>!keep X p)=F at *
  have hW:W ((F:Int)+1)=((F+1:Nat):Int):=N2 hf (by omega)
  have hne:((F:Int)==-1)=false:=by rw[beq_eq_false_iff_ne];omega
  obtain⟨t,s,e1,rfl,m,cur,k,e2,e3,e4⟩:=oc5 l X hl hX F (F+1) l ⟨rfl,by rw[dc8 tP hf,List.filter_append,ht,List.filter_cons,hk,if_neg (by simp),List.filter_nil,List.append_nil],rfl,by omega,by omega⟩
  have hm:m≤l.length:=e3.lm
  have hin:inB (m:Int) (l.length+1)=true:=q9 (by omega)
  have hfin:cur.take m=l.filter (keep X):=by rw[e3.t,List.take_of_length_le e4]
  simp only[if_true,hW,hne,e1,e2,Int.toNat_natCast,hin,Nat.zero_add,Nat.sub_zero]
  refine⟨m,cur.take m++(List.replicate (l.length - m) ⟨⟨0,0,0⟩,0⟩++cur.drop (m+(l.length - m))),?_,?_,?_,?_⟩
  ·rw[Ac6,Ac7,dc9,bb0,bb0]
   rfl
  ·rw[List.length_append,List.length_append,List.length_take,List.length_replicate,e3.len];omega
  ·rw[List.take_append_of_le_length (by rw[List.length_take,e3.len];omega),List.take_take,Nat.min_self,hfin]
  ·rw[List.length_append,List.length_append,List.length_take,List.length_replicate,List.length_drop,e3.len];omega
def eqP (x y:Pln):Bool:=x.n.x==y.n.x&&(x.n.y==y.n.y&&(x.n.z==y.n.z&&(x.b==y.b&&true)))
theorem Ac8 (x y:Pln):eqP x y=true↔x=y:=by
 unfold eqP
 simp only[Bool.and_true,Bool.and_eq_true,beq_iff_eq]
 refine⟨fun⟨h1,h2,h3,h4⟩=>?_,fun h=>by subst h;exact⟨rfl,rfl,rfl,rfl⟩⟩
 obtain⟨⟨x1,x2,x3⟩,x4⟩:=x
 obtain⟨⟨y1,y2,y3⟩,y4⟩:=y
 simp only at h1 h2 h3 h4
 subst h1 h2 h3 h4
 rfl
def ddF:Pln→List Pln→List Pln
 | _,[]=>[]
 | a,x::l=>if eqP x a then ddF x l else x::ddF x l
def dd:List Pln→List Pln
 | []=>[]
 | x::l=>x::ddF x l
structure Cmp (l:List Pln) (n:Nat) (cur:List Pln) (m j:Nat) (R:List Pln):Prop where
 len:cur.length=l.length
 t:cur.take m++ddF (gL tP l (j - 1)) ((l.take n).drop j)=R
 d:cur.drop (j - 1)=l.drop (j - 1)
 le:m+1≤j
theorem ec0 (l : List Pln) (n o : Nat) (hn : n ≤ l.length) (hl : l.length ≤ 1000000000) (ho : o < n) (m : Nat) (cur : List Pln) (R : List Pln) (hd : Cmp l n cur m (o + 1) R) :
  ∃ t s,lp (n7 ⟨n,0+o,n - o⟩) ⟨(m:Int),((1:Nat):Int),bL tP cur⟩=(t,s)∧(t=1∧∃ m' cur' k,s=⟨((m':Nat):Int),k,bL tP cur'⟩∧cur'.length=l.length∧cur'.take m'=R∧m'≤n):=by
 refine cc9 (step:=n7 ⟨n,0+o,n - o⟩) (mk:=fun j (x:Nat×List Pln)=>(⟨(x.1:Int),(j:Int),bL tP x.2⟩:m0)) (n - o) (fun j x=>Cmp l n x.2 x.1 (o+j) R∧1≤j∧x.1≤n) (fun t s=>t=1∧∃ m' cur' k,s=⟨((m':Nat):Int),k,bL tP cur'⟩∧cur'.length=l.length∧cur'.take m'=R∧m'≤n) (by omega) (fun j x hj hx=>?_) (fun j x hj hx=>?_) 1 (m,cur) ⟨hd,Nat.le_refl _,by have:=hd.le;show m≤n;omega⟩
 ·obtain⟨m,cur⟩:=x
  obtain⟨⟨h1,h2,h3,h4⟩,hj1,hmn⟩:=hx
  simp only at h1 h2 h3 h4 hmn
  have hoj:o+j < n:=by omega
  have hjc:o+j < cur.length:=by omega
  have hjc':o+(j - 1) < cur.length:=by omega
  have hmc:m < cur.length:=by omega
  have hg':gL tP cur (o+(j - 1))=gL tP l (o+j - 1):=by rw[show o+(j - 1)=o+j - 1 by omega];exact zb3 tP h3
  have hd1:cur.drop (o+j)=l.drop (o+j):=by have:=ub2 h3 1;rw[show o+j - 1+1=o+j by omega] at this;exact this
  have hg:gL tP cur (o+j)=gL tP l (o+j):=zb3 tP hd1
  have hWm:W ((m:Int)+1)=((m+1:Nat):Int):=by rw[Ca9 (by omega) (by omega)];omega
  have hWj:W ((j:Int) - 1)=((j - 1:Nat):Int):=by rw[Ca9 (by omega) (by omega)];omega
  have hb:Nat.blt m cur.length=true:=by rw[Nat.blt_eq];exact hmc
  have hrow:r8 (bL tP cur) m=tP.row (gL tP cur m):=fa8 tP hmc
  have sp:∀ (v:Pln) (x1 x2 x3 x4:Int),ba1 (tP.row v) 0 [i x1,i x2,i x3,i x4]=tP.row ⟨⟨x1,x2,x3⟩,x4⟩:=fun _ _ _ _ _=>rfl
  have rl:∀ v:Pln,Nat.ble 4 (len (tP.row v))=true:=fun _=>rfl
  simp only[n7,F7,Int.toNat_natCast,Nat.zero_add,hWj,tc3 tP hjc,tc3 tP hjc',tc2 tP hjc,tc2 tP hjc',N2 hj (show n - o≤4611686018427387904 by omega),hWm,hg,hg',hrow,ua0,hb,sp,rl,jc0,q9 (show m < n by omega)]
  rw[btD (O5 hj)]
  simp only[q9 hj,q9 (show j - 1 < n - o by omega),na5,Bool.and_self]
  rw[show ((gL tP l (o+j)).n.x==(gL tP l (o+j - 1)).n.x&&((gL tP l (o+j)).n.y==(gL tP l (o+j - 1)).n.y&&((gL tP l (o+j)).n.z==(gL tP l (o+j - 1)).n.z&&((gL tP l (o+j)).b==(gL tP l (o+j - 1)).b&&true))))=eqP (gL tP l (o+j)) (gL tP l (o+j - 1)) from rfl]
  have hcons:(l.take n).drop (o+j)=gL tP l (o+j)::(l.take n).drop (o+(j+1)):=by
   rw[List.drop_eq_getElem_cons (by rw[List.length_take];omega),List.getElem_take,qb8 tP (by omega)]
   rfl
  rw[hcons] at h2
  have hlast:o+(j+1) - 1=o+j:=by omega
  unfold ddF at h2
  cases he:eqP (gL tP l (o+j)) (gL tP l (o+j - 1)) with
  | true =>
   rw[he] at h2
   simp only[if_true] at h2
   refine .nx ⟨(m,cur),rfl,⟨⟨h1,?_,?_,by show m+1≤o+(j+1);omega⟩,by omega,hmn⟩⟩
   ·rw[hlast];exact h2
   ·rw[hlast];exact hd1
  | false =>
   rw[he] at h2
   simp only[Bool.false_eq_true,if_false] at h2
   refine .nx ⟨(m+1,cur.set m (gL tP l (o+j))),rfl,⟨⟨by rw[List.length_set];exact h1,?_,?_,by show m+1+1≤o+(j+1);omega⟩,by omega,by show m+1≤n;omega⟩⟩
   ·rw[hlast]
    show (cur.set m (gL tP l (o+j))).take (m+1)++_=R
    rw[List.take_succ_eq_append_getElem (by rw[List.length_set];exact hmc),List.getElem_set_self,List.take_set_of_le (Nat.le_refl _),List.append_assoc]
    exact h2
   ·rw[hlast]
    show (cur.set m (gL tP l (o+j))).drop (o+j)=_
    rw[List.drop_set_of_lt (by omega),hd1]
 ·obtain⟨m,cur⟩:=x
  obtain⟨⟨h1,h2,h3,h4⟩,hj1,hmn⟩:=hx
  simp only at h1 h2 h3 h4 hmn
  refine⟨1,?_,rfl,m,cur,_,rfl,h1,?_,hmn⟩
  ·simp only[n7,F7]
   rw[bfD (by omega)]
  ·rw[List.drop_eq_nil_of_le (by rw[List.length_take];omega)] at h2
   unfold ddF at h2
   rw[List.append_nil] at h2
   exact h2
theorem vc9 (l : List Pln) (n : Nat) (hn : n ≤ l.length) (hl : l.length ≤ 1000000000) :
  ∃ m r,U0 ⟨n,bL tP l⟩=⟨1,m,bL tP r⟩∧m≤r.length∧r.take m=dd (l.take n):=by
 unfold U0 G1
 simp only
 by_cases h2:(n:Int) < 2
 ·rw[btD h2]
  refine⟨n,l,rfl,hn,?_⟩
  have:n=0∨n=1:=by omega
  rcases this with rfl | rfl
  ·rfl
  ·cases l with
   | nil=>rfl
   | cons x l=>rfl
 ·rw[bfD h2]
  have h1n:1≤n:=by omega
  have hI : ∀ j, j < n → 1 ≤ j → l.take j ++ ddF (gL tP l (j - 1)) ((l.take n).drop j) = dd (l.take n) →
    (eqP (gL tP l j) (gL tP l (j - 1))=true→Cmp l n l j (j+1) (dd (l.take n)))∧(eqP (gL tP l j) (gL tP l (j - 1))=false→l.take (j+1)++ddF (gL tP l (j+1 - 1)) ((l.take n).drop (j+1))=dd (l.take n)):=by
   intro j hj hj1 hR
   have hcons:(l.take n).drop j=gL tP l j::(l.take n).drop (j+1):=by
    rw[List.drop_eq_getElem_cons (by rw[List.length_take];omega),List.getElem_take,qb8 tP (by omega)]
   rw[hcons] at hR
   unfold ddF at hR
   constructor
   ·intro he
    rw[he] at hR
    simp only[if_true] at hR
    exact⟨rfl,hR,rfl,Nat.le_refl _⟩
   ·intro he
    rw[he] at hR
    simp only[Bool.false_eq_true,if_false] at hR
    rw[dc8 tP (show j < l.length by omega),List.append_assoc]
    exact hR
  have inner:∀ k,k < n→1≤k→Cmp l n l k (k+1) (dd (l.take n))→∃ m' cur' k',lp (n7 ⟨n,0+k,n - k⟩) ⟨(k:Int),1,bL tP l⟩=(1,⟨((m':Nat):Int),k',bL tP cur'⟩)∧cur'.length=l.length∧cur'.take m'=dd (l.take n)∧m'≤n:=by
   intro k hk hk1 hc
   obtain⟨t,s,e1,rfl,m',cur',k',rfl,e2,e3,e4⟩:=ec0 l n k hn hl hk k l _ hc
   exact⟨m',cur',k',e1,e2,e3,e4⟩
  have key:=cc9 (step:=G3 ⟨n,bL tP l⟩) (mk:=fun j (_:Unit)=>(⟨(j:Int)⟩:o0)) n (fun j _=>1≤j∧j≤n∧l.take j++ddF (gL tP l (j - 1)) ((l.take n).drop j)=dd (l.take n))
   (fun t s=>(t=1∧∃ k:Nat,s=⟨(k:Int)⟩∧k < n∧1≤k∧Cmp l n l k (k+1) (dd (l.take n)))∨(t=2∧l.take n=dd (l.take n))) (by omega) (fun j x hj hx=>?_) (fun j x hj hx=>?_) 1 () ⟨Nat.le_refl _,h1n,by
    cases l with
    | nil=>simp only[List.length_nil] at hn;omega
    | cons x l =>
     cases n with
     | zero=>omega
     | succ n=>rfl⟩
  ·obtain⟨t,s,e1,e2⟩:=key
   rw[show (⟨1⟩:o0)=⟨((1:Nat):Int)⟩ from rfl,e1]
   rcases e2 with⟨rfl,k,rfl,hk,hk1,hc⟩ | ⟨rfl,he⟩
   ·obtain⟨m',cur',k',e2,e3,e4,e5⟩:=inner k hk hk1 hc
    simp only[Int.toNat_natCast,e2]
    simp only[Nat.zero_add,Nat.sub_zero]
    refine⟨m',cur'.take m'++(List.replicate (n - m') ⟨⟨0,0,0⟩,0⟩++cur'.drop (m'+(n - m'))),?_,?_,?_⟩
    ·rw[Ac6,Ac7,dc9,bb0,bb0]
     rfl
    ·rw[List.length_append,List.length_take,e3];omega
    ·rw[List.take_append_of_le_length (by rw[List.length_take,e3];omega),List.take_take,Nat.min_self,e4]
   ·exact⟨n,l,rfl,hn,he⟩
  ·obtain⟨hj1,hjn,hR⟩:=hx
   obtain⟨i1,i2⟩:=hI j hj hj1 hR
   have hWj:W ((j:Int) - 1)=((j - 1:Nat):Int):=by rw[Ca9 (by omega) (by omega)];omega
   have hjl:j < l.length:=by omega
   have hjl':j - 1 < l.length:=by omega
   simp only[G3,F8,Int.toNat_natCast,hWj,Fb5 hjl,Fb5 hjl',tb4 hjl,tb4 hjl',N2 hj (show n≤4611686018427387904 by omega)]
   rw[btD (O5 hj),bt (q9 hj),bt (q9 (show j - 1 < n by omega)),bt (q9 (show j < n+1 by omega))]
   simp only[na5]
   rw[show ((gL tP l j).n.x==(gL tP l (j - 1)).n.x&&((gL tP l j).n.y==(gL tP l (j - 1)).n.y&&((gL tP l j).n.z==(gL tP l (j - 1)).n.z&&((gL tP l j).b==(gL tP l (j - 1)).b&&true))))=eqP (gL tP l j) (gL tP l (j - 1)) from rfl]
   cases he:eqP (gL tP l j) (gL tP l (j - 1)) with
   | false=>exact .nx ⟨(),rfl,by omega,by omega,i2 he⟩
   | true =>
    obtain⟨m',cur',k',e2,e3,e4,e5⟩:=inner j hj hj1 (i1 he)
    rw[e2]
    simp only[q9 (show m' < n+1 by omega)]
    exact .ex (.inl ⟨rfl,j,rfl,hj,hj1,i1 he⟩)
  ·obtain⟨hj1,hjn,hR⟩:=hx
   refine⟨2,?_,.inr ⟨rfl,?_⟩⟩
   ·simp only[G3,F8]
    rw[bfD (by omega)]
   ·have:j=n:=by omega
    subst this
    rw[List.drop_eq_nil_of_le (by rw[List.length_take];omega)] at hR
    unfold ddF at hR
    rw[List.append_nil] at hR
    exact hR
theorem Qc5 (l:List Pln) (n:Nat) (hn:n≤l.length):slR tP (bL tP l) 0 n=l.take n:=Jb5 tP (by rw[List.length_take];omega) fun k hk=>by
 rw[Nat.zero_add,fa8 tP (by omega)]
 congr 1
 simp[gL,List.getD_eq_getElem?_getD,List.getElem?_take,hk]
theorem Qc6 (l:List Pln) (n:Nat) (hn:n≤l.length):okS tP (bL tP l) 0 n=true:=wb6 tP (f:=fun k=>gL tP l k) fun k hk=>by rw[Nat.zero_add,fa8 tP (by omega)]
noncomputable def lean (c:List Pln):List Pln:=if ful c then dd (Wa8 (c.filter (keep (pts c)))) else []
theorem Ac9 (p:Pln) (c:List Pln) (hc:c.length≤1000000):Rd (one (r1L tP)) (ya6 (p,c)) (fun r=>r=lean (p::c)):=by
 have hl:(p::c).length≤1000000000:=by simp only[List.length_cons];omega
 have hX:=cc8 (p::c)
 unfold ya6 lean
 simp only[G6,la7,K4,md9,nd0,Nb1 hl,Nb2 hl,Qa6 hl,Qa7 hl]
 cases hf:ful (p::c) with
 | false=>exact⟨_,[],rfl,rfl,rfl⟩
 | true =>
  have ec:o2 (fun k=>tP.row (gL tP (p::c) k)) (List.range (c.length+1))=bL tP (p::c):=ic9 tP (p::c)
  have hcl:Z1 (p,c)=⟨1,(p::c).length,bL tP (p::c)⟩:=by
   unfold Z1 J8
   simp only[ec,ua0]
   have z:Nat.beq (p::c).length 0=false:=rfl
   have r:Nat.ble ((0+(p::c).length)*32) room=true:=Eb9 (by simp only[List.length_cons];omega)
   rw[z,r,Nat.zero_add]
   rfl
  obtain⟨m,r,e1,e2,e3,e4⟩:=Gc7 (p::c) (pts (p::c)) hl (by omega)
  have hm:m≤(p::c).length:=by
   have h1:=congrArg List.length e3
   have h2:=List.length_filter_le (keep (pts (p::c))) (p::c)
   rw[List.length_take] at h1
   omega
  have hs:(Wa8 (r.take m)).length=m:=by rw[Wb7,List.length_take];omega
  have hrows:app (bL tP (Wa8 (r.take m))) (j9 (bL tP r) m)=bL tP (Wa8 (r.take m)++r.drop m):=by rw[dc9,bb0]
  have hok:okL tP (c.length+1) (fun k=>tP.row (gL tP (p::c) k))=true:=wb6 tP (f:=fun k=>gL tP (p::c) k) fun _ _=>rfl
  simp only[hcl,e1,Qc5 r m e2,Qc6 r m e2,hrows,hok]
  obtain⟨m2,r2,k1,k2,k3⟩:=vc9 (Wa8 (r.take m)++r.drop m) m (by rw[List.length_append,hs];omega) (by rw[List.length_append,hs,List.length_drop,e4];omega)
  rw[k1,ua0]
  have q1:Nat.ble m room=true:=by rw[Nat.ble_eq];unfold room;simp only[List.length_cons] at hm;omega
  have q2:Nat.ble m r.length=true:=by rw[Nat.ble_eq];exact e2
  rw[q1,q2]
  have hfin:r2.take m2=dd (Wa8 ((p::c).filter (keep (pts (p::c))))):=by
   rw[k3,List.take_append_of_le_length (by rw[hs];omega),List.take_of_length_le (by rw[hs];omega),e3]
  exact jd6 k2 rfl hfin
theorem Qc7 (p:Pln) (c:List Pln) (hc:c.length≤1000000):ya7 (p,c)=lean (p::c):=(Ac9 p c hc).p
theorem Qc8 (p:Pln) (c:List Pln) (hc:c.length≤1000000):ya8 (p,c)=true:=(Ac9 p c hc).g
end Go.Ev.Ce
namespace Go.Ev.Ce
open Go Go.Ev Go.Ev.L Go.Proofs Go.Sort
theorem nb4 (l:List Pln):List.Perm (Wa8 l) l:=List.mergeSort_perm l _
theorem Gc8 (x y z:Pln) (h1:(!ltOf Ka6 y x)=true) (h2:(!ltOf Ka6 z y)=true):(!ltOf Ka6 z x)=true:=by
 simp only[Bool.not_eq_true',Ea7,decide_eq_false_iff_not] at *
 unfold LtP at *
 omega
theorem Gc9 (x y:Pln):((!ltOf Ka6 y x)||!ltOf Ka6 x y)=true:=by
 simp only[Bool.or_eq_true,Bool.not_eq_true',Ea7,decide_eq_false_iff_not]
 unfold LtP
 omega
theorem ec1 (l:List Pln):(Wa8 l).Pairwise fun x y=>(!ltOf Ka6 y x)=true:=List.pairwise_mergeSort Gc8 Gc9 l
theorem ec2 {l r:List Pln} (hp:List.Perm r l) (hs:r.Pairwise fun x y=>(!ltOf Ka6 y x)=true):Wa8 l=r :=
 List.Perm.eq_of_pairwise (fun x y _ _ h1 h2=>pd4 x y (by simpa using h2) (by simpa using h1)) (ec1 l) hs ((nb4 l).trans hp.symm)
instance:DecidableEq Pln:=fun x y=>decidable_of_iff _ (Ac8 x y)
def U6:List Pln:=[⟨⟨1,0,0⟩,1⟩,⟨⟨-1,0,0⟩,0⟩,⟨⟨0,1,0⟩,1⟩,⟨⟨0,-1,0⟩,0⟩,⟨⟨0,0,1⟩,1⟩,⟨⟨0,0,-1⟩,0⟩]
def U8:List Pln:=[⟨⟨-1,0,0⟩,0⟩,⟨⟨0,1,0⟩,1⟩,⟨⟨0,-1,0⟩,0⟩,⟨⟨0,0,1⟩,1⟩,⟨⟨0,0,-1⟩,0⟩,⟨⟨1,0,0⟩,1⟩,⟨⟨1,1,1⟩,3⟩,⟨⟨1,0,0⟩,7⟩]
def C4:List Pln:=[⟨⟨-1,0,0⟩,0⟩,⟨⟨0,-1,0⟩,0⟩,⟨⟨0,0,-1⟩,0⟩,⟨⟨2,3,4⟩,1⟩]
def U7:List Pln:=[⟨⟨1,0,0⟩,1⟩,⟨⟨-1,0,0⟩,0⟩,⟨⟨0,1,0⟩,1⟩,⟨⟨0,-1,0⟩,0⟩,⟨⟨0,0,1⟩,1⟩,⟨⟨0,0,-1⟩,0⟩,⟨⟨-1,0,0⟩,-1⟩]
def LU:List Pln:=[⟨⟨-1,0,0⟩,0⟩,⟨⟨0,-1,0⟩,0⟩,⟨⟨0,0,-1⟩,0⟩,⟨⟨0,0,1⟩,1⟩,⟨⟨0,1,0⟩,1⟩,⟨⟨1,0,0⟩,1⟩]
def PU:List Pt:=[⟨1,1,1,1⟩,⟨1,1,0,1⟩,⟨1,0,1,1⟩,⟨1,0,0,1⟩,⟨0,1,1,1⟩,⟨0,1,0,1⟩,⟨0,0,1,1⟩,⟨0,0,0,1⟩]
def PC:List Pt:=[⟨0,0,0,1⟩,⟨0,0,1,4⟩,⟨0,1,0,3⟩,⟨1,0,0,2⟩]
theorem jd7:pts U6=PU:=by kernel_rfl
theorem jd8:pts C4=PC:=by kernel_rfl
theorem jd9:ful []=true:=by kernel_rfl
theorem kd0:ful U7=false:=by kernel_rfl
theorem kd1:has U6 ⟨1,0,0⟩=true:=by kernel_rfl
theorem kd2:has U6 ⟨2,0,0⟩=false:=by kernel_rfl
theorem pd8:bnd C4=(⟨0,0,0⟩,⟨1,1,1⟩,true):=by kernel_rfl
theorem pd9:apart U6 [⟨⟨-1,0,0⟩,-1⟩]=true:=by kernel_rfl
theorem qd0:apart U6 [⟨⟨-1,-1,0⟩,-1⟩]=false:=by kernel_rfl
theorem qd1:dc5 U6 [⟨⟨1,1,1⟩,3⟩]=true:=by kernel_rfl
theorem qd2:dc5 U6 [⟨⟨1,1,1⟩,2⟩]=false:=by kernel_rfl
theorem qd3:chk [⟨⟨0,0,0⟩,0⟩]=12:=by kernel_rfl
theorem qd4:(⟨⟨1,0,0⟩,1⟩::U8).filter (keep (pts (⟨⟨1,0,0⟩,1⟩::U8)))=[⟨⟨1,0,0⟩,1⟩,⟨⟨-1,0,0⟩,0⟩,⟨⟨0,1,0⟩,1⟩,⟨⟨0,-1,0⟩,0⟩,⟨⟨0,0,1⟩,1⟩,⟨⟨0,0,-1⟩,0⟩,⟨⟨1,0,0⟩,1⟩]:=by kernel_rfl
theorem kd3:ful (⟨⟨1,0,0⟩,1⟩::U8)=true:=by kernel_rfl
theorem kd4:lean (⟨⟨1,0,0⟩,1⟩::U8)=LU:=by
 unfold lean
 rw[kd3,if_pos rfl,qd4,ec2 (r:=[⟨⟨-1,0,0⟩,0⟩,⟨⟨0,-1,0⟩,0⟩,⟨⟨0,0,-1⟩,0⟩,⟨⟨0,0,1⟩,1⟩,⟨⟨0,1,0⟩,1⟩,⟨⟨1,0,0⟩,1⟩,⟨⟨1,0,0⟩,1⟩])]
 ·rfl
 ·exact List.isPerm_iff.1 (by kernel_rfl)
 ·exact of_decide_eq_true (by kernel_rfl)
theorem ad3:Va4=⟨1,0,1,0,1,0⟩:=by kernel_rfl
theorem Wb9:ja5=some (b true,[]):=by
 have le:∀ {c:List Pln},c.length≤100→c.length≤1000000000:=fun h=>by omega
 have le':∀ {c:List Pln},c.length≤100→c.length≤100000000:=fun h=>by omega
 have u:U6.length≤100:=by decide
 have u7:U7.length≤100:=by decide
 have u8:U8.length≤1000000:=by decide
 have c4:C4.length≤100:=by decide
 have n0:([]:List Pln).length≤100:=by decide
 have o1:∀ p:Pln,[p].length≤100:=fun _=>(by decide:1≤100)
 unfold ja5
 rw[ad3]
 simp only[G6,la7]
 rw[show ([⟨⟨1,0,0⟩,1⟩,⟨⟨-1,0,0⟩,0⟩,⟨⟨0,1,0⟩,1⟩,⟨⟨0,-1,0⟩,0⟩,⟨⟨0,0,1⟩,1⟩,⟨⟨0,0,-1⟩,0⟩,⟨⟨-1,0,0⟩,-1⟩]:List Pln)=U7 from rfl,
  show ([⟨⟨-1,0,0⟩,0⟩,⟨⟨0,1,0⟩,1⟩,⟨⟨0,-1,0⟩,0⟩,⟨⟨0,0,1⟩,1⟩,⟨⟨0,0,-1⟩,0⟩,⟨⟨1,0,0⟩,1⟩,⟨⟨1,1,1⟩,3⟩,⟨⟨1,0,0⟩,7⟩]:List Pln)=U8 from rfl,
  show ([⟨⟨1,0,0⟩,1⟩,⟨⟨-1,0,0⟩,0⟩,⟨⟨0,1,0⟩,1⟩,⟨⟨0,-1,0⟩,0⟩,⟨⟨0,0,1⟩,1⟩,⟨⟨0,0,-1⟩,0⟩]:List Pln)=U6 from rfl,
  show ([⟨⟨-1,0,0⟩,0⟩,⟨⟨0,-1,0⟩,0⟩,⟨⟨0,0,-1⟩,0⟩,⟨⟨2,3,4⟩,1⟩]:List Pln)=C4 from rfl,
  show ([⟨⟨-1,0,0⟩,0⟩,⟨⟨0,-1,0⟩,0⟩,⟨⟨0,0,-1⟩,0⟩,⟨⟨0,0,1⟩,1⟩,⟨⟨0,1,0⟩,1⟩,⟨⟨1,0,0⟩,1⟩]:List Pln)=LU from rfl]
 simp only[Qa6 (le u),Qa7 (le u),Qa6 (le c4),Qa7 (le c4),jd7,jd8,Qc7 _ U8 u8,Qc8 _ U8 u8,kd4,Nb1 (le n0),Nb2 (le n0),jd9,Nb1 (le u7),Nb2 (le u7),kd0,
  dd5 (le u),dd6 (le u),kd1,kd2,Ac1 (le c4),Ac2 (le c4),pd8,Ac4 (le' u) (le' (o1 _)),Ac5 (le' u) (le' (o1 _)),pd9,qd0,oc2 (le u) (le (o1 _)),oc3 (le u) (le (o1 _)),qd1,qd2,
  zc4 _ (le (o1 _)),zc5 _ (le (o1 _)),qd3]
 rw[show ([⟨1,1,1,1⟩,⟨1,1,0,1⟩,⟨1,0,1,1⟩,⟨1,0,0,1⟩,⟨0,1,1,1⟩,⟨0,1,0,1⟩,⟨0,0,1,1⟩,⟨0,0,0,1⟩]:List Pt)=PU from rfl,
  show ([⟨0,0,0,1⟩,⟨0,0,1,4⟩,⟨0,1,0,3⟩,⟨1,0,0,2⟩]:List Pt)=PC from rfl]
 simp only[tb2 PU (by decide),tb3 PU (by decide),tb2 PC (by decide),tb3 PC (by decide),jd4 LU (by decide),jd5 LU (by decide)]
 rfl
theorem Qc9:sa8=true:=by unfold sa8;rw[Wb9];rfl
theorem Rc0:sa9=true:=by unfold sa9;rw[Wb9];rfl
end Go.Ev.Ce
namespace Go.Ev.Ce
open Go Go.Ev Go.Ev.L Go.Proofs
def ad4:List Pln→Pln→List Pln
 | [],y=>[y]
 | a::l,y=>if Ka6 a y < 0 then a::ad4 l y else if eqP a y then a::l else y::a::l
end Go.Ev.Ce
namespace Go.Ev.Ce
def rmZ (p:Pln) (x:Pt):Int:=p.b*x.pw - (p.n.x*x.px+p.n.y*x.py+p.n.z*x.pz)
structure Inr (r:List Pln) (x:Pt):Prop where
 w:0 < x.pw
 h:∀ p∈r,0≤rmZ p x
def Rc1 (p:Pln):Pln:=⟨⟨-p.n.x,-p.n.y,-p.n.z⟩,-p.b⟩
theorem oc6 (p:Pln) (x:Pt):rmZ (Rc1 p) x=-rmZ p x:=by unfold rmZ Rc1;grind
structure Cn (r:List Pln) (x:Pt):Prop extends Inr r x where
 c:∃ p q s,p∈r∧q∈r∧s∈r∧mw p q s≠0∧rmZ p x=0∧rmZ q x=0∧rmZ s x=0
def Bdd (r:List Pln):Prop:=∀ d:V3,d≠⟨0,0,0⟩→∃ p∈r,0 < dot p.n d
def go (x:Pt) (q:Pln) (d:V3):Pt:=⟨x.px*dot q.n d+rmZ q x*d.x,x.py*dot q.n d+rmZ q x*d.y,x.pz*dot q.n d+rmZ q x*d.z,x.pw*dot q.n d⟩
theorem Bc0 (p q:Pln) (x:Pt) (d:V3):rmZ p (go x q d)=dot q.n d*rmZ p x - rmZ q x*dot p.n d:=by simp only[rmZ,go,dot];grind
theorem wa1 {a b c:Int} (hc:0 < c) (h:a*c≤b*c):a≤b:=Int.le_of_mul_le_mul_right h hc
theorem first (x:Pt) (d:V3):∀ r:List Pln,(∀ p∈r,0≤rmZ p x)→(∃ p∈r,0 < dot p.n d)→∃ q∈r,0 < dot q.n d∧∀ p∈r,0 < dot p.n d→rmZ q x*dot p.n d≤rmZ p x*dot q.n d
 | [],_,h=>by obtain⟨p,hp,_⟩:=h;cases hp
 | a::r,hx,h=>by
  by_cases hr:∃ p∈r,0 < dot p.n d
  ·obtain⟨q,hq,h1,h2⟩:=first x d r (fun p hp=>hx p (List.mem_cons_of_mem _ hp)) hr
   by_cases ha:0 < dot a.n d
   ·by_cases hc:rmZ q x*dot a.n d≤rmZ a x*dot q.n d
    ·refine⟨q,List.mem_cons_of_mem _ hq,h1,fun p hp h3=>?_⟩
     rcases List.mem_cons.1 hp with rfl | hp
     ·exact hc
     ·exact h2 p hp h3
    ·refine⟨a,List.mem_cons_self,ha,fun p hp h3=>?_⟩
     rcases List.mem_cons.1 hp with rfl | hp
     ·exact Int.le_refl _
     ·have h4:=h2 p hp h3
      have h5:rmZ a x*dot q.n d < rmZ q x*dot a.n d:=by omega
      have h6:=Int.mul_le_mul_of_nonneg_right h4 (Int.le_of_lt ha)
      have h7:=Int.mul_lt_mul_of_pos_right h5 h3
      have e1:rmZ q x*dot p.n d*dot a.n d=rmZ q x*dot a.n d*dot p.n d:=by grind
      have e2:rmZ a x*dot q.n d*dot p.n d=rmZ a x*dot p.n d*dot q.n d:=by grind
      have e3:rmZ p x*dot q.n d*dot a.n d=rmZ p x*dot a.n d*dot q.n d:=by grind
      refine wa1 h1 ?_
      omega
   ·refine⟨q,List.mem_cons_of_mem _ hq,h1,fun p hp h3=>?_⟩
    rcases List.mem_cons.1 hp with rfl | hp
    ·exact absurd h3 ha
    ·exact h2 p hp h3
  ·have ha : 0 < dot a.n d := by
    obtain⟨p,hp,h3⟩:=h
    rcases List.mem_cons.1 hp with rfl | hp
    ·exact h3
    ·exact absurd ⟨p,hp,h3⟩ hr
   refine⟨a,List.mem_cons_self,ha,fun p hp h3=>?_⟩
   rcases List.mem_cons.1 hp with rfl | hp
   ·exact Int.le_refl _
   ·exact absurd ⟨p,hp,h3⟩ hr
theorem step {r:List Pln} {x:Pt} (hx:Inr r x) (d:V3) (h:∃ p∈r,0 < dot p.n d):∃ q∈r,0 < dot q.n d∧Inr r (go x q d):=by
 obtain⟨q,hq,h1,h2⟩:=first x d r hx.h h
 refine⟨q,hq,h1,⟨Int.mul_pos hx.w h1,fun p hp=>?_⟩⟩
 rw[Bc0]
 have h3:=hx.h p hp
 have h4:=hx.h q hq
 by_cases h5:0 < dot p.n d
 ·have:=h2 p hp h5
  have e:rmZ p x*dot q.n d=dot q.n d*rmZ p x:=Int.mul_comm _ _
  omega
 ·have h6:=Int.mul_nonneg (Int.le_of_lt h1) h3
  have h7:rmZ q x*dot p.n d≤0:=Int.mul_nonpos_of_nonneg_of_nonpos h4 (by omega)
  omega
theorem Rc2 {h q:Pln} {x:Pt} {d:V3} (h1:0≤rmZ q x) (h2:0≤dot h.n d):rmZ h (go x q d)*x.pw≤rmZ h x*(go x q d).pw∨x.pw≤0:=by
 rcases Int.lt_or_le 0 x.pw with hw | hw
 ·left
  rw[Bc0]
  have:=Int.mul_nonneg h1 h2
  have h3:=Int.mul_nonneg this (Int.le_of_lt hw)
  have e:rmZ h x*(go x q d).pw=dot q.n d*rmZ h x*x.pw:=by unfold go;grind
  have e2:(dot q.n d*rmZ h x - rmZ q x*dot h.n d)*x.pw=dot q.n d*rmZ h x*x.pw - rmZ q x*dot h.n d*x.pw:=by grind
  omega
 ·exact .inr hw
def neg (d:V3):V3:=⟨-d.x,-d.y,-d.z⟩
theorem Bc1 (a d:V3):dot a (neg d)=-dot a d:=by unfold dot neg;grind
theorem kd5 {d:V3} (h:d≠⟨0,0,0⟩):neg d≠⟨0,0,0⟩:=fun h'=>h (by
 cases d;unfold neg at h';simp only[V3.mk.injEq] at h' ⊢;omega)
theorem turn (h:Pln) {d:V3} (hd:d≠⟨0,0,0⟩):∃ e,e≠(⟨0,0,0⟩:V3)∧0≤dot h.n e∧∀ a,dot a d=0→dot a e=0:=by
 by_cases h1:0≤dot h.n d
 ·exact⟨d,hd,h1,fun _ h=>h⟩
 ·exact⟨neg d,kd5 hd,by rw[Bc1];omega,fun a h=>by rw[Bc1,h];rfl⟩
theorem vd1 {n:V3} (hn:n≠⟨0,0,0⟩):∃ d,d≠(⟨0,0,0⟩:V3)∧dot n d=0:=by
 by_cases h:n.x=0∧n.y=0
 ·exact⟨⟨1,0,0⟩,by simp,by unfold dot;simp[h.1]⟩
 ·refine⟨⟨n.y,-n.x,0⟩,fun h'=>h ?_,by unfold dot;grind⟩
  simp only[V3.mk.injEq] at h'
  omega
theorem V3.ext' {a b:V3} (h1:a.x=b.x) (h2:a.y=b.y) (h3:a.z=b.z):a=b:=by cases a;cases b;simp_all
theorem Rc3 {m n d:V3} (hm:m≠⟨0,0,0⟩) (h1:dot m d=0) (h2:dot n d≠0):o5 m n≠⟨0,0,0⟩:=fun h=>by
 unfold o5 at h
 simp only[V3.mk.injEq] at h
 obtain⟨c1,c2,c3⟩:=h
 unfold dot at h1 h2
 have e1:m.x*(n.x*d.x+n.y*d.y+n.z*d.z)=0:=by grind
 have e2:m.y*(n.x*d.x+n.y*d.y+n.z*d.z)=0:=by grind
 have e3:m.z*(n.x*d.x+n.y*d.y+n.z*d.z)=0:=by grind
 have k:∀ {a:Int},a*(n.x*d.x+n.y*d.y+n.z*d.z)=0→a=0:=fun h=>(Int.mul_eq_zero.1 h).resolve_right h2
 exact hm (V3.ext' (k e1) (k e2) (k e3))
theorem oc7 (a b:V3):dot a (o5 a b)=0:=by unfold dot o5;grind
theorem oc8 (a b:V3):dot b (o5 a b)=0:=by unfold dot o5;grind
theorem Rc4 {p q:Pln} {x:Pt} {d:V3} (h:rmZ p x=0) (h':dot p.n d=0):rmZ p (go x q d)=0:=by rw[Bc0,h,h'];simp
theorem Rc5 (q:Pln) (x:Pt) (d:V3):rmZ q (go x q d)=0:=by rw[Bc0];grind
theorem qd5 {q:Pln} {d:V3} (h:0 < dot q.n d):q.n≠⟨0,0,0⟩:=fun h'=>by rw[h'] at h;unfold dot at h;simp at h
theorem dd7 {a b c u v w:Int} (hu:0 < u) (hv:0 < v) (hw:0 < w) (h1:a*v≤b*u) (h2:b*w≤c*v):a*w≤c*u:=by
 have h3:=Int.mul_le_mul_of_nonneg_right h1 (Int.le_of_lt hw)
 have h4:=Int.mul_le_mul_of_nonneg_right h2 (Int.le_of_lt hu)
 have e1:a*v*w=a*w*v:=by grind
 have e2:b*u*w=b*w*u:=by grind
 have e3:c*v*u=c*u*v:=by grind
 exact wa1 hv (by omega)
theorem kd6 {r:List Pln} (hb:Bdd r) (h:Pln) {x:Pt} (hx:Inr r x):∃ v,Cn r v∧rmZ h v*x.pw≤rmZ h x*v.pw:=by
 obtain⟨d0,n0,p0,_⟩:=turn h (d:=⟨1,0,0⟩) (by simp)
 obtain⟨q1,m1,k1,i1⟩:=step hx d0 (hb d0 n0)
 have l1:=(Rc2 (h:=h) (x:=x) (hx.h q1 m1) p0).resolve_right (by have:=hx.w;omega)
 obtain⟨e1,ne1,he1⟩:=vd1 (qd5 k1)
 obtain⟨d1,n1,p1,z1⟩:=turn h ne1
 obtain⟨q2,m2,k2,i2⟩:=step i1 d1 (hb d1 n1)
 have l2:=(Rc2 (h:=h) (x:=go x q1 d0) (i1.h q2 m2) p1).resolve_right (by have:=i1.w;omega)
 have hc:=Rc3 (qd5 k1) (z1 _ he1) (n:=q2.n) (by omega)
 obtain⟨d2,n2,p2,z2⟩:=turn h hc
 obtain⟨q3,m3,k3,i3⟩:=step i2 d2 (hb d2 n2)
 have l3:=(Rc2 (h:=h) (x:=go (go x q1 d0) q2 d1) (i2.h q3 m3) p2).resolve_right (by have:=i2.w;omega)
 have a1:rmZ q1 (go (go x q1 d0) q2 d1)=0:=Rc4 (Rc5 _ _ _) (z1 _ he1)
 refine⟨_,⟨i3,q3,q1,q2,m3,m1,m2,fun h0=>?_,Rc5 _ _ _,Rc4 a1 (z2 _ (oc7 _ _)),Rc4 (Rc5 _ _ _) (z2 _ (oc8 _ _))⟩,?_⟩
 ·have:dot q3.n d2=0:=z2 _ h0
  omega
 ·exact dd7 i3.w i2.w hx.w l3 (dd7 i2.w i1.w hx.w l2 l1)
theorem Db8 {r:List Pln} (hb:Bdd r) {h:Pln} (hv:∀ v,Cn r v→0≤rmZ h v) {x:Pt} (hx:Inr r x):0≤rmZ h x:=by
 obtain⟨v,h1,h2⟩:=kd6 hb h hx
 have h3:=Int.mul_nonneg (hv v h1) (Int.le_of_lt hx.w)
 exact wa1 h1.w (by rw[Int.zero_mul];omega)
def mid (x y:Pt):Pt:=⟨x.px*y.pw+y.px*x.pw,x.py*y.pw+y.py*x.pw,x.pz*y.pw+y.pz*x.pw,2*(x.pw*y.pw)⟩
theorem Rc6 (p:Pln) (x y:Pt):rmZ p (mid x y)=rmZ p x*y.pw+rmZ p y*x.pw:=by unfold rmZ mid;grind
theorem Inr.mid {r:List Pln} {x y:Pt} (hx:Inr r x) (hy:Inr r y):Inr r (mid x y):=⟨by unfold Ce.mid;exact Int.mul_pos (by decide) (Int.mul_pos hx.w hy.w),fun p hp=>by
 rw[Rc6]
 exact Int.add_nonneg (Int.mul_nonneg (hx.h p hp) (Int.le_of_lt hy.w)) (Int.mul_nonneg (hy.h p hp) (Int.le_of_lt hx.w))⟩
def ad5 (r:List Pln):Prop:=∃ x:Pt,0 < x.pw∧∀ p∈r,0 < rmZ p x
theorem Bc2 {r:List Pln}:∀ (l:List Pln),(∀ p∈l,p∈r)→(∃ x,Inr r x)→(∀ p∈l,∃ v,Inr r v∧0 < rmZ p v)→∃ x,Inr r x∧∀ p∈l,0 < rmZ p x
 | [],_,h,_=>by obtain⟨x,h⟩:=h;exact⟨x,h,fun p hp=>by cases hp⟩
 | a::l,hl,h,hv=>by
  obtain⟨x,h1,h2⟩:=Bc2 l (fun p hp=>hl p (List.mem_cons_of_mem _ hp)) h (fun p hp=>hv p (List.mem_cons_of_mem _ hp))
  obtain⟨y,h3,h4⟩:=hv a List.mem_cons_self
  refine⟨mid x y,h1.mid h3,fun p hp=>?_⟩
  rw[Rc6]
  rcases List.mem_cons.1 hp with rfl | hp
  ·have:=Int.mul_nonneg (h1.h p (hl p List.mem_cons_self)) (Int.le_of_lt h3.w)
   have:=Int.mul_pos h4 h1.w
   omega
  ·have:=Int.mul_pos (h2 p hp) h3.w
   have:=Int.mul_nonneg (h3.h p (hl p (List.mem_cons_of_mem _ hp))) (Int.le_of_lt h1.w)
   omega
theorem Rc7 {r:List Pln} (hb:Bdd r) (h0:r≠[]):ad5 r↔∀ p∈r,∃ v,Cn r v∧0 < rmZ p v:=by
 constructor
 ·intro ⟨x,hw,hx⟩ p hp
  by_cases h:∃ v,Cn r v∧0 < rmZ p v
  ·exact h
  ·have hx':Inr r x:=⟨hw,fun q hq=>Int.le_of_lt (hx q hq)⟩
   have:=Db8 hb (h:=Rc1 p) (fun v hv=>by
    rw[oc6]
    have:¬ 0 < rmZ p v:=fun h'=>h ⟨v,hv,h'⟩
    omega) hx'
   rw[oc6] at this
   have:=hx p hp
   omega
 ·intro h
  obtain⟨p,hp⟩:=List.exists_mem_of_ne_nil r h0
  obtain⟨v,hv,_⟩:=h p hp
  obtain⟨x,h1,h2⟩:=Bc2 r (fun _ h=>h) ⟨v,hv.toInr⟩ fun p hp=>by
   obtain⟨v,hv,h⟩:=h p hp
   exact⟨v,hv.toInr,h⟩
  exact⟨x,h1.w,h2⟩
structure Eqv (x v:Pt):Prop where
 e1:x.px*v.pw=v.px*x.pw
 e2:x.py*v.pw=v.py*x.pw
 e3:x.pz*v.pw=v.pz*x.pw
theorem Eqv.rm {x v:Pt} (h:Eqv x v) (p:Pln):rmZ p x*v.pw=rmZ p v*x.pw:=by
 obtain⟨e1,e2,e3⟩:=h
 unfold rmZ
 grind
theorem Eqv.inr {r:List Pln} {x v:Pt} (h:Eqv x v) (hw:0 < x.pw) (hv:Inr r v):Inr r x:=⟨hw,fun p hp=>by
 have:=h.rm p
 have h2:=Int.mul_nonneg (hv.h p hp) (Int.le_of_lt hw)
 exact wa1 hv.w (by rw[Int.zero_mul];omega)⟩
end Go.Ev.Ce
namespace Go.Ev.Ce
open Go Go.Ev Go.Ev.L Go.Proofs
theorem wc0 {p:Pln} {x:Pt} (hp:Bd p) (hx:Okx x):rm p x=rmZ p x:=by
 unfold rm rmZ
 obtain⟨w1,w2,⟨a1,a2⟩,⟨a3,a4⟩,a5,a6⟩:=hx
 have h0:=mb hp.b1 hp.b2 (show -600000000000≤x.pw by omega) w2
 have h1:=mb hp.x1 hp.x2 a1 a2
 have h2:=mb hp.y1 hp.y2 a3 a4
 have h3:=mb hp.z1 hp.z2 a5 a6
 exact Ca9 (by omega) (by omega)
theorem Bc3 {r:List Pln} (hb:Bds r) {x:Pt} (hx:Okx x):inn r x=true↔Inr r x:=by
 unfold inn
 rw[List.all_eq_true]
 constructor
 ·intro h
  refine⟨hx.w1,fun p hp=>?_⟩
  have:=h p hp
  rw[wc0 (hb p hp) hx] at this
  simpa using this
 ·intro h p hp
  rw[wc0 (hb p hp) hx]
  simpa using h.h p hp
theorem Rc8 {p q s:Pln} (h:(mpt p q s).2=true):mw p q s≠0∧∃ k:Int,k≠0∧k*(mpt p q s).1.px=(mv p q s).x∧k*(mpt p q s).1.py=(mv p q s).y∧k*(mpt p q s).1.pz=(mv p q s).z∧k*(mpt p q s).1.pw=mw p q s:=by
 unfold mpt at h ⊢
 by_cases h0:mw p q s=0
 ·rw[if_pos h0] at h;cases h
 refine⟨h0,?_⟩
 have hg:=cc2 (v:=mv p q s) h0
 have dv:∀ {x:Int},(gc (mv p q s) (mw p q s))∣x→gc (mv p q s) (mw p q s)*Int.tdiv x (gc (mv p q s) (mw p q s))=x:=fun h=>Int.mul_tdiv_cancel' h
 have d1:gc (mv p q s) (mw p q s)∣(mv p q s).x:=by
  rw[← Int.dvd_natAbs];exact Int.natCast_dvd_natCast.2 (Nat.dvd_trans (Nat.gcd_dvd_left _ _) (Nat.gcd_dvd_left _ _))
 have d2:gc (mv p q s) (mw p q s)∣(mv p q s).y:=by
  rw[← Int.dvd_natAbs];exact Int.natCast_dvd_natCast.2 (Nat.dvd_trans (Nat.gcd_dvd_left _ _) (Nat.gcd_dvd_right _ _))
 have d3:gc (mv p q s) (mw p q s)∣(mv p q s).z:=by
  rw[← Int.dvd_natAbs];exact Int.natCast_dvd_natCast.2 (Nat.dvd_trans (Nat.gcd_dvd_right _ _) (Nat.gcd_dvd_left _ _))
 have d4:gc (mv p q s) (mw p q s)∣mw p q s:=by
  rw[← Int.dvd_natAbs];exact Int.natCast_dvd_natCast.2 (Nat.dvd_trans (Nat.gcd_dvd_right _ _) (Nat.gcd_dvd_right _ _))
 rw[if_neg h0]
 by_cases h1:mw p q s < 0
 ·rw[if_pos h1]
  have e:∀ {x:Int},(gc (mv p q s) (mw p q s))∣x→-(gc (mv p q s) (mw p q s))*Int.tdiv (-x) (gc (mv p q s) (mw p q s))=x:=fun {x} h=>by
   rw[Int.neg_mul,dv ((Int.dvd_neg).2 h),Int.neg_neg]
  exact⟨-(gc (mv p q s) (mw p q s)),by omega,e d1,e d2,e d3,e d4⟩
 ·rw[if_neg h1]
  exact⟨gc (mv p q s) (mw p q s),by omega,dv d1,dv d2,dv d3,dv d4⟩
theorem Rc9 {p q s:Pln} (h:(mpt p q s).2=true):rmZ p (mpt p q s).1=0∧rmZ q (mpt p q s).1=0∧rmZ s (mpt p q s).1=0:=by
 obtain⟨_,k,hk,e1,e2,e3,e4⟩:=Rc8 h
 generalize (mpt p q s).1=x at *
 have f:∀ a:Pln,a.b*mw p q s - (a.n.x*(mv p q s).x+a.n.y*(mv p q s).y+a.n.z*(mv p q s).z)=0→rmZ a x=0:=fun a ha=>by
  rw[← e1,← e2,← e3,← e4] at ha
  have:k*rmZ a x=0:=by rw[← ha];unfold rmZ;grind
  exact (Int.mul_eq_zero.1 this).resolve_left hk
 refine⟨f p ?_,f q ?_,f s ?_⟩<;>(simp only[mw,mv,dot,o5];grind)
theorem ad6 {p q s:Pln} (h:mw p q s≠0):(mpt p q s).2=true:=by
 unfold mpt
 rw[if_neg h]
 split<;>rfl
theorem Sc0 {p q s:Pln} {x:Pt} (h1:rmZ p x=0) (h2:rmZ q x=0) (h3:rmZ s x=0):mw p q s*x.px=(mv p q s).x*x.pw∧mw p q s*x.py=(mv p q s).y*x.pw∧mw p q s*x.pz=(mv p q s).z*x.pw:=by
 have i1:(mv p q s).x*x.pw - mw p q s*x.px=(o5 q.n s.n).x*rmZ p x+(o5 s.n p.n).x*rmZ q x+(o5 p.n q.n).x*rmZ s x:=by simp only[mw,mv,dot,o5,rmZ];grind
 have i2:(mv p q s).y*x.pw - mw p q s*x.py=(o5 q.n s.n).y*rmZ p x+(o5 s.n p.n).y*rmZ q x+(o5 p.n q.n).y*rmZ s x:=by simp only[mw,mv,dot,o5,rmZ];grind
 have i3:(mv p q s).z*x.pw - mw p q s*x.pz=(o5 q.n s.n).z*rmZ p x+(o5 s.n p.n).z*rmZ q x+(o5 p.n q.n).z*rmZ s x:=by simp only[mw,mv,dot,o5,rmZ];grind
 rw[h1,h2,h3] at i1 i2 i3
 simp only[Int.mul_zero,Int.add_zero] at i1 i2 i3
 omega
theorem kd7 {p q s:Pln} {x v:Pt} (h:mw p q s≠0) (h1:rmZ p x=0) (h2:rmZ q x=0) (h3:rmZ s x=0) (k1:rmZ p v=0) (k2:rmZ q v=0) (k3:rmZ s v=0):Eqv x v:=by
 obtain⟨a1,a2,a3⟩:=Sc0 h1 h2 h3
 obtain⟨c1,c2,c3⟩:=Sc0 k1 k2 k3
 have f:∀ {a c m:Int},mw p q s*a=m*x.pw→mw p q s*c=m*v.pw→a*v.pw=c*x.pw:=fun {a c m} ha hc=>by
  have:mw p q s*(a*v.pw - c*x.pw)=0:=by grind
  have:=(Int.mul_eq_zero.1 this).resolve_left h
  omega
 exact⟨f a1 c1,f a2 c2,f a3 c3⟩
theorem Hc0 {r:List Pln} {p q:Pln} {out:List Pt} {s:Pln} {x:Pt} (h:x∈out):x∈pa3 r p q out s:=by
 unfold pa3
 split
 ·exact List.mem_append_left _ h
 ·exact h
theorem Ob2 {r:List Pln} {p q:Pln} {x:Pt}:∀ {l:List Pln} {out:List Pt},x∈out→x∈Ua5 r p q l out
 | [],_,h=>h
 | s::l,out,h=>Ob2 (l:=l) (out:=pa3 r p q out s) (Hc0 h)
theorem ub3 {r:List Pln} {p:Pln} {x:Pt}:∀ {l:List Pln} {out:List Pt},x∈out→x∈Ja8 r p l out
 | [],_,h=>h
 | _::l,_,h=>ub3 (l:=l) (Ob2 h)
theorem oc9 {r:List Pln} {x:Pt}:∀ {l:List Pln} {out:List Pt},x∈out→x∈yb5 r l out
 | [],_,h=>h
 | _::l,_,h=>oc9 (l:=l) (ub3 h)
theorem Hc1 {r:List Pln} {p q:Pln} {out:List Pt} {s:Pln} (h1:(mpt p q s).2=true) (h2:inn r (mpt p q s).1=true):(mpt p q s).1∈pa3 r p q out s:=by
 unfold pa3
 rw[h1,h2]
 cases h:Db1 out (mpt p q s).1 with
 | true=>simpa using (Oc3 _ _).1 h
 | false=>simp
theorem Ob3 {r:List Pln} {p q s:Pln} (h1:(mpt p q s).2=true) (h2:inn r (mpt p q s).1=true):∀ {l:List Pln} {out:List Pt},s∈l→(mpt p q s).1∈Ua5 r p q l out
 | [],_,h=>by cases h
 | t::l,out,h=>by
  show _∈Ua5 r p q l (pa3 r p q out t)
  rcases List.mem_cons.1 h with rfl | h
  ·exact Ob2 (Hc1 h1 h2)
  ·exact Ob3 h1 h2 h
structure Hit (r:List Pln) (Q:Pt→Prop) (p q s:Pln):Prop where
 h1:(mpt p q s).2=true
 h2:inn r (mpt p q s).1=true
 h3:Q (mpt p q s).1
theorem pc0 {r:List Pln} {Q:Pt→Prop} {p q s:Pln} (hq:Hit r Q p q s) (hs:Hit r Q p s q) (hne:q≠s):∀ {l:List Pln} {out:List Pt},q∈l→s∈l→∃ x∈Ja8 r p l out,Q x
 | [],_,h,_=>by cases h
 | t::l,out,hql,hsl=>by
  show ∃ x∈Ja8 r p l (Ua5 r p t l out),Q x
  rcases List.mem_cons.1 hql with rfl | h1
  ·have h2:=(List.mem_cons.1 hsl).resolve_left fun h=>hne h.symm
   exact⟨_,ub3 (Ob3 hq.h1 hq.h2 h2),hq.h3⟩
  ·rcases List.mem_cons.1 hsl with rfl | h2
   ·exact⟨_,ub3 (Ob3 hs.h1 hs.h2 h1),hs.h3⟩
   ·exact pc0 hq hs hne (l:=l) h1 h2
theorem pc1 {r : List Pln} {Q : Pt → Prop} {p q s : Pln} (H : ∀ a c d, (a = p ∨ a = q ∨ a = s) → (c = p ∨ c = q ∨ c = s) → (d = p ∨ d = q ∨ d = s) → a ≠ c → c ≠ d → a ≠ d → Hit r Q a c d) (h1 : p ≠ q) (h2 : q ≠ s) (h3 : p ≠ s) :
  ∀ {l:List Pln} {out:List Pt},p∈l→q∈l→s∈l→∃ x∈yb5 r l out,Q x
 | [],_,h,_,_=>by cases h
 | t::l,out,hp,hq,hs=>by
  have fin:∀ {a c d:Pln} {out:List Pt},(a=p∨a=q∨a=s)→(c=p∨c=q∨c=s)→(d=p∨d=q∨d=s)→a≠c→c≠d→a≠d→c∈l→d∈l→∃ x∈yb5 r l (Ja8 r a l out),Q x:=fun ha hc hd n1 n2 n3 m1 m2=>by
   obtain⟨x,hx,hQ⟩:=pc0 (H _ _ _ ha hc hd n1 n2 n3) (H _ _ _ ha hd hc n3 n2.symm n1) n2 (out:=_) m1 m2
   exact⟨x,oc9 hx,hQ⟩
  show ∃ x∈yb5 r l (Ja8 r t l out),Q x
  rcases List.mem_cons.1 hp with rfl | hp'
  ·exact fin (.inl rfl) (.inr (.inl rfl)) (.inr (.inr rfl)) h1 h2 h3 ((List.mem_cons.1 hq).resolve_left (Ne.symm h1)) ((List.mem_cons.1 hs).resolve_left (Ne.symm h3))
  ·rcases List.mem_cons.1 hq with rfl | hq'
   ·exact fin (.inr (.inl rfl)) (.inl rfl) (.inr (.inr rfl)) (Ne.symm h1) h3 h2 hp' ((List.mem_cons.1 hs).resolve_left (Ne.symm h2))
   ·rcases List.mem_cons.1 hs with rfl | hs'
    ·exact fin (.inr (.inr rfl)) (.inl rfl) (.inr (.inl rfl)) (Ne.symm h3) h1 (Ne.symm h2) hp' hq'
    ·exact pc1 H h1 h2 h3 hp' hq' hs'
theorem qd6 {p q s:Pln} (h:mw p q s≠0):p≠q∧q≠s∧p≠s:=by
 refine⟨fun e=>h ?_,fun e=>h ?_,fun e=>h ?_⟩<;>(subst e;simp only[mw,dot,o5];grind)
theorem Sc1 {r:List Pln} (hb:Bds r):∀ x∈cor r,Cn r x:=cc7 fun p hp q hq s hs h hi=>by
 obtain⟨w1,w2,w3,w4,w5⟩:=vc1 (hb p hp) (hb q hq) (hb s hs) h
 obtain⟨e1,e2,e3⟩:=Rc9 h
 exact⟨(Bc3 hb ⟨w1,w5,w2,w3,w4⟩).1 hi,p,q,s,hp,hq,hs,(Rc8 h).1,e1,e2,e3⟩
theorem Sc2 {r:List Pln} (hb:Bds r) {v:Pt} (hv:Cn r v):∃ x∈cor r,Eqv x v:=by
 obtain⟨p,q,s,hp,hq,hs,hw,e1,e2,e3⟩:=hv.c
 obtain⟨n1,n2,n3⟩:=qd6 hw
 refine pc1 (fun a c d ha hc hd m1 m2 m3=>?_) n1 n2 n3 hp hq hs
 have hm:∀ {a},(a=p∨a=q∨a=s)→a∈r∧rmZ a v=0:=fun h=>by
  rcases h with rfl | rfl | rfl
  ·exact⟨hp,e1⟩
  ·exact⟨hq,e2⟩
  ·exact⟨hs,e3⟩
 have hw':mw a c d≠0:=by
  have k:mw a c d=mw p q s∨mw a c d=-mw p q s:=by
   rcases ha with rfl | rfl | rfl<;>rcases hc with rfl | rfl | rfl<;>rcases hd with rfl | rfl | rfl<;>first | exact absurd rfl m1 | exact absurd rfl m2 | exact absurd rfl m3 | exact .inl rfl | (left;simp only[mw,dot,o5];grind;done) | (right;simp only[mw,dot,o5];grind;done)
  rcases k with k | k<;>omega
 have h:=ad6 hw'
 obtain⟨w1,w2,w3,w4,w5⟩:=vc1 (hb a (hm ha).1) (hb c (hm hc).1) (hb d (hm hd).1) h
 obtain⟨f1,f2,f3⟩:=Rc9 h
 have he:=kd7 hw' f1 f2 f3 (hm ha).2 (hm hc).2 (hm hd).2
 exact⟨h,(Bc3 hb ⟨w1,w5,w2,w3,w4⟩).2 (he.inr w1 hv.toInr),he⟩
theorem Sc3 (c:List Pln):Bdd (c++ws):=fun d hd=>by
 have k:∀ {n:V3} {m:Int},(⟨n,m⟩:Pln)∈ws→0 < dot n d→∃ p∈c++ws,0 < dot p.n d:=fun h h'=>⟨_,List.mem_append_right _ h,h'⟩
 by_cases h1:0 < d.x
 ·exact k (n:=⟨1,0,0⟩) (m:=24) (by simp[ws]) (by unfold dot;simp;omega)
 by_cases h2:d.x < 0
 ·exact k (n:=⟨-1,0,0⟩) (m:=24) (by simp[ws]) (by unfold dot;simp;omega)
 by_cases h3:0 < d.y
 ·exact k (n:=⟨0,1,0⟩) (m:=24) (by simp[ws]) (by unfold dot;simp;omega)
 by_cases h4:d.y < 0
 ·exact k (n:=⟨0,-1,0⟩) (m:=24) (by simp[ws]) (by unfold dot;simp;omega)
 by_cases h5:0 < d.z
 ·exact k (n:=⟨0,0,1⟩) (m:=24) (by simp[ws]) (by unfold dot;simp;omega)
 by_cases h6:d.z < 0
 ·exact k (n:=⟨0,0,-1⟩) (m:=24) (by simp[ws]) (by unfold dot;simp;omega)
 exact absurd (V3.ext' (by show d.x=0;omega) (by show d.y=0;omega) (by show d.z=0;omega)) hd
theorem Bc4 {r:List Pln} (hb:Bds r) {p:Pln} (hp:Bd p):pos (cor r) p=true↔∃ v,Cn r v∧0 < rmZ p v:=by
 unfold pos
 rw[List.any_eq_true]
 constructor
 ·rintro⟨x,hx,h⟩
  rw[wc0 hp (gb3 hb x hx)] at h
  exact⟨x,Sc1 hb x hx,by simpa using h⟩
 ·rintro⟨v,hv,h⟩
  obtain⟨x,hx,he⟩:=Sc2 hb hv
  refine⟨x,hx,?_⟩
  rw[wc0 hp (gb3 hb x hx)]
  have h1:=he.rm p
  have h2:=Int.mul_pos h (gb3 hb x hx).w1
  have:0 < rmZ p x:=Int.lt_of_mul_lt_mul_right (by rw[Int.zero_mul];omega:0*v.pw < rmZ p x*v.pw) (Int.le_of_lt hv.w)
  simpa using this
theorem Xb0 {r:List Pln} (hb:Bds r) (hd:Bdd r) (h0:r≠[]):ball r=true↔ad5 r:=by
 rw[Rc7 hd h0]
 unfold ball
 rw[List.all_eq_true]
 exact⟨fun h p hp=>(Bc4 hb (hb p hp)).1 (h p hp),fun h p hp=>(Bc4 hb (hb p hp)).2 (h p hp)⟩
end Go.Ev.Ce
namespace Go.Ev.Ce
def dv (z v:Pt):V3:=⟨v.px*z.pw - z.px*v.pw,v.py*z.pw - z.py*v.pw,v.pz*z.pw - z.pz*v.pw⟩
end Go.Ev.Ce
namespace Go.Ev.Ce
open Go Go.Ev Go.Ev.L Go.Proofs
def vd2 (p:Pln) (v:V3):Int:=if okp p&&inV v then (if dot p.n v - p.b < 0 then -1 else if dot p.n v - p.b > 0 then 1 else 0) else 0
def qd7 (v:V3):Pt:=⟨v.x,v.y,v.z,1⟩
structure Thr (a b c:V3) (p:Pln):Prop where
 ok:okp p=true
 k:∃ g:Int,0 < g∧g*p.n.x=(o5 (sub b a) (sub c a)).x∧g*p.n.y=(o5 (sub b a) (sub c a)).y∧g*p.n.z=(o5 (sub b a) (sub c a)).z
 o:p.b=dot p.n a
def hold (p:Pln) (l:List V3):Bool:=!l.any fun v=>decide (vd2 p v > 0)
end Go.Ev.Ce
namespace Go.Ev.Ce
open Go Go.Ev Go.Ev.L Go.Proofs
noncomputable def qd8 (l:List V3) (a c:Nat) (out:List Pln) (k:Nat):List Pln :=
  if (vc5 (gL tV l a) (gL tV l c) (gL tV l k)).2 then
    (if hold (Rc1 (vc5 (gL tV l a) (gL tV l c) (gL tV l k)).1) l then ad4 (if hold (vc5 (gL tV l a) (gL tV l c) (gL tV l k)).1 l then ad4 out (vc5 (gL tV l a) (gL tV l c) (gL tV l k)).1 else out) (Rc1 (vc5 (gL tV l a) (gL tV l c) (gL tV l k)).1)
     else (if hold (vc5 (gL tV l a) (gL tV l c) (gL tV l k)).1 l then ad4 out (vc5 (gL tV l a) (gL tV l c) (gL tV l k)).1 else out))
  else out
noncomputable def F2 (l:List V3) (a:Nat) (out:List Pln) (c:Nat):List Pln:=(List.range c).foldl (qd8 l a c) out
noncomputable def F1 (l:List V3) (out:List Pln) (a:Nat):List Pln:=(List.range a).foldl (F2 l a) out
noncomputable def F0 (l:List V3):List Pln:=(List.range l.length).foldl (F1 l) []
end Go.Ev.Ce
namespace Go.Ev.Ce
open Go Go.Ev Go.Ev.L Go.Proofs
theorem Fb7 {c:List Pln} {x:Pt} (hb:∀ p∈c,Bd p) (hx:Okx x):inn c x=true↔∀ p∈c,0≤rmZ p x:=by
 unfold inn
 rw[List.all_eq_true]
 refine⟨fun h p hp=>?_,fun h p hp=>?_⟩
 ·have:=h p hp
  rw[wc0 (hb p hp) hx] at this
  simpa using this
 ·rw[wc0 (hb p hp) hx]
  simpa using h p hp
end Go.Ev.Ce
namespace Go.Ev.Ce
open Go Go.Ev Go.Ev.L Go.Proofs
structure vd6 (l:List V3):Prop where
 h:∃ a c k v,a∈l∧c∈l∧k∈l∧v∈l∧dot (o5 (sub c a) (sub k a)) (sub v a)≠0
structure Fct (l:List V3) (p:Pln):Prop where
 ok:okp p=true
 hd:hold p l=true
end Go.Ev.Ce
namespace Go.Ev.Ce
open Go Go.Ev Go.Ev.L Go.Proofs
theorem Xb1:g3 ⟨1,0,0⟩=1∧g3 ⟨-1,0,0⟩=1∧g3 ⟨0,1,0⟩=1∧g3 ⟨0,-1,0⟩=1∧g3 ⟨0,0,1⟩=1∧g3 ⟨0,0,-1⟩=1:=by decide
structure Sb2 (c:List Pln):Prop where
 l:c.length≤47
 v:∀ p∈c,okp p=true
 f:ad5 (c++ws)
theorem Sb2.chk {c:List Pln} (h:Sb2 c):(chk c==0)=true:=by
 rw[beq_iff_eq,sb8]
 exact⟨by have:=h.l;omega,h.v⟩
theorem Sb2.bds {c:List Pln} (h:Sb2 c):Bds (c++ws):=(gb2 h.chk).1
theorem Sb2.ful {c:List Pln} (h:Sb2 c):ful c=true:=by
 unfold Ce.ful
 rw[h.chk,(Xb0 h.bds (Sc3 c) (by simp[ws])).2 h.f]
 rfl
theorem Sc4 {lo hi:V3} (h1:Sm 20 lo.x∧Sm 20 lo.y∧Sm 20 lo.z) (h2:Sm 20 hi.x∧Sm 20 hi.y∧Sm 20 hi.z) (h3:lo.x < hi.x∧lo.y < hi.y∧lo.z < hi.z):Sb2 (vc3 lo hi):=by
 obtain⟨⟨a1,a2⟩,⟨a3,a4⟩,a5,a6⟩:=h1
 obtain⟨⟨b1,b2⟩,⟨b3,b4⟩,b5,b6⟩:=h2
 obtain⟨c1,c2,c3⟩:=h3
 have w:∀ {x:Int},-20≤x→x≤20→W (0 - x)=-x:=fun h h'=>by rw[Ca9 (by omega) (by omega)];omega
 have e:vc3 lo hi=[⟨⟨1,0,0⟩,hi.x⟩,⟨⟨-1,0,0⟩,-lo.x⟩,⟨⟨0,1,0⟩,hi.y⟩,⟨⟨0,-1,0⟩,-lo.y⟩,⟨⟨0,0,1⟩,hi.z⟩,⟨⟨0,0,-1⟩,-lo.z⟩]:=by
  unfold vc3
  rw[w a1 a2,w a3 a4,w a5 a6]
 rw[e]
 refine⟨by simp,fun p hp=>?_,⟨⟨lo.x+hi.x,lo.y+hi.y,lo.z+hi.z,2⟩,by show (0:Int) < 2;omega,fun p hp=>?_⟩⟩
 ·simp only[List.mem_cons,List.not_mem_nil,or_false] at hp
  unfold okp
  simp only[List.all_cons,List.all_nil,Bool.and_true,Bool.and_eq_true,gb1,beq_iff_eq,Sm]
  rcases hp with rfl | rfl | rfl | rfl | rfl | rfl<;>exact⟨by simp,by first | exact Xb1.1 | exact Xb1.2.1 | exact Xb1.2.2.1 | exact Xb1.2.2.2.1 | exact Xb1.2.2.2.2.1 | exact Xb1.2.2.2.2.2,by simp only;omega⟩
 ·simp only[ws,List.cons_append,List.nil_append,List.mem_cons,List.not_mem_nil,or_false] at hp
  rcases hp with rfl | rfl | rfl | rfl | rfl | rfl | rfl | rfl | rfl | rfl | rfl | rfl<;>simp only[rmZ]<;>omega
theorem Sb2.pts {c:List Pln} (h:Sb2 c):pts c=cor (c++ws):=by unfold Ce.pts;rw[if_pos h.chk]
end Go.Ev.Ce
