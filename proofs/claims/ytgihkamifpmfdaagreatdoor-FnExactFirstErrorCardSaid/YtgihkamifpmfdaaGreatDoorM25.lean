/- Part 25. No condition. -/
import Derived.Test.YtgihkamifpmfdaaGreatDoorM15
import Derived.Test.YtgihkamifpmfdaaGreatDoorM22
namespace Go.Proofs.YtgihkamifpmfdaaGreatDoor
open Go.RowKit
set_option linter.unusedVariables false
set_option maxRecDepth 10000
set_option linter.unusedSimpArgs false
set_option maxHeartbeats 4000000
def Wj (w:A1) (i:Nat) (p:A8):Bool:=decide (pIx w p.A5=(i:Int)) && p.Ba.all fun d=>Ap (pIx w d) 0 ((i:Int) - 1)
def aZ (w:A1) (i:Nat) (p:A8):Bool:=sub p.Ba ((w.A2.take i).map A8.A5)
def bad {α:Type} (p:Nat→α→Bool) (i:Nat) (x:α):Option Unit:=if p i x then none else some ()
def OL (ok:A8→Bool) (w:A1):Bool:=(fs (bad fun i p=>ok p && Wj w i p) 0 w.A2).isNone && decide (w.A2.length≤5)
def IJ (ok:A8→Bool) (w:A1):Bool:=(fs (bad fun i p=>ok p && aZ w i p) 0 w.A2).isNone && (decide (w.A2.length≤5) && dst (w.A2.map A8.A5))
theorem Od {α:Type} {p:Nat→α→Bool} {i:Nat} {x:α}:bad p i x=none↔p i x=true:=by unfold bad;cases p i x<;>simp
theorem PK {α:Type} {p:Nat→α→Bool} {l:List α}:(fs (bad p) 0 l).isNone=true↔∀k (h:k<l.length),p k l[k]=true:=by
 constructor
 ·intro h k hk
  have key:∀(l:List α) (i:Nat),(fs (bad p) i l).isNone=true→∀k (h:k<l.length),p (i+k) l[k]=true:=by
   intro l
   induction l with
   |nil=>intro _ _ k hk;simp at hk
   |cons x l ih=>
    intro i h k hk
    rw[fs] at h
    cases hx:bad p i x with
    |some y=>rw[hx] at h;simp at h
    |none=>
     rw[hx] at h
     cases k with
     |zero=>simpa using Od.1 hx
     |succ k=>have:=ih (i+1) h k (by simpa using hk);rw[show i+1+k=i+(k+1) by omega] at this;simpa using this
  have:=key l 0 h k hk
  simpa using this
 ·intro h
  rw[It (fun k hk=>by rw[Nat.zero_add];exact Od.2 (h k hk))];rfl
theorem Lq {w:A1} {s:BA'} {i:Nat}:pIx w s=(i:Int)↔∃h:i<w.A2.length,w.A2[i].A5=s∧∀j (hj:j<i),¬(w.A2[j]'(by omega)).A5=s:=by
 unfold pIx
 cases h:w.A2.findIdx? (fun q=>decide (q.A5=s)) with
 |none=>
  simp only
  constructor
  ·intro q;omega
  ·rintro ⟨h1,h2, -⟩
   rw[List.findIdx?_eq_none_iff] at h
   have:=h _ (gm h1)
   simp[h2] at this
 |some j=>
  have h':=h
  rw[List.findIdx?_eq_some_iff_getElem] at h'
  obtain⟨h1,h2,h3⟩:=h'
  simp only
  constructor
  ·intro q
   have:j=i:=by omega
   subst this
   exact⟨h1,by simpa using h2,fun k hk=>by simpa using h3 k hk⟩
  ·rintro ⟨g1,g2,g3⟩
   have:j=i:=by
    rcases Nat.lt_trichotomy j i with q|q|q
    ·exact absurd (by simpa using h2) (g3 j q)
    ·exact q
    ·have:=h3 i q;simp[g2] at this
   omega
theorem eu {w:A1} {s:BA'} {i:Nat} (hi:i≤w.A2.length):Ap (pIx w s) 0 ((i:Int) - 1)=true↔s∈(w.A2.take i).map A8.A5:=by
 unfold Ap
 simp only[Bool.and_eq_true,decide_eq_true_eq]
 constructor
 ·rintro ⟨h1,h2⟩
  obtain⟨n,hn⟩:=Int.eq_ofNat_of_zero_le h1
  obtain⟨h3,h4, -⟩:=Lq.1 hn
  refine List.mem_map.2 ⟨w.A2[n],?_,h4⟩
  exact List.mem_take_iff_getElem.2 ⟨n,by omega,rfl⟩
 ·intro h
  obtain⟨p,hp,rfl⟩:=List.mem_map.1 h
  obtain⟨k,hk,rfl⟩:=List.mem_take_iff_getElem.1 hp
  have hkl:k<w.A2.length:=by omega
  -- the first of that name
  have:∃j,j≤k∧pIx w w.A2[k].A5=(j:Int):=by
   cases h:w.A2.findIdx? (fun q=>decide (q.A5=w.A2[k].A5)) with
   |none=>
    rw[List.findIdx?_eq_none_iff] at h
    have:=h _ (gm hkl)
    simp at this
   |some j=>
    refine⟨j,?_,by unfold pIx;rw[h]⟩
    rw[List.findIdx?_eq_some_iff_getElem] at h
    obtain⟨h1,h2,h3⟩:=h
    rcases Nat.lt_or_ge k j with q|q
    ·have:=h3 k q;simp at this
    ·exact q
  obtain⟨j,h1,h2⟩:=this
  rw[h2];omega
theorem ML (l:List BA'):dst l=true↔∀i (h:i<l.length),∀j (hj:j<i),¬l[j]=l[i]:=by
 unfold dst Ka
 simp only[List.all_eq_true,List.mem_range]
 constructor
 ·intro h i hi j hj e
  have:=h i hi
  unfold FG at this
  simp only[Bool.not_eq_true',List.getD_eq_getElem?_getD,List.getElem?_eq_getElem hi,Option.getD_some] at this
  have h2:B7 (l.take i) l[i]=true:=List.any_eq_true.2 ⟨l[j],List.mem_take_iff_getElem.2 ⟨j,by omega,rfl⟩,by simpa using e⟩
  rw[this] at h2;cases h2
 ·intro h i hi
  unfold FG
  simp only[Bool.not_eq_true',List.getD_eq_getElem?_getD,List.getElem?_eq_getElem hi,Option.getD_some]
  rw[Bool.eq_false_iff]
  intro q
  obtain⟨x,hx,e⟩:=List.any_eq_true.1 q
  obtain⟨j,hj,rfl⟩:=List.mem_take_iff_getElem.1 hx
  exact h i hi j (by omega) (by simpa using e)
theorem aY (ok:A8→Bool) (w:A1):OL ok w=IJ ok w:=by
 have hsub:∀i,i<w.A2.length→∀p:A8,(p.Ba.all fun d=>Ap (pIx w d) 0 ((i:Int) - 1))=aZ w i p:=fun i hi p=>by
  have e:(fun d=>Ap (pIx w d) 0 ((i:Int) - 1))=fun d=>B7 ((w.A2.take i).map A8.A5) d:=by
   funext d
   rw[Bool.eq_iff_iff,eu (by omega)]
   constructor
   ·intro q;exact List.any_eq_true.2 ⟨d,q,by simp⟩
   ·intro q
    obtain⟨x,hx,e⟩:=List.any_eq_true.1 q
    have:x=d:=by simpa using e
    subst this;exact hx
  rw[e]
  unfold aZ sub
  rw[List.all_eq_not_any_not]
 rw[Bool.eq_iff_iff]
 unfold OL IJ
 simp only[Bool.and_eq_true,PK]
 constructor
 ·rintro ⟨h1,h2⟩
  refine⟨fun k hk=> ?_,h2,(ML _).2 fun i hi j hj e=> ?_⟩
  ·have:=h1 k hk
   unfold Wj at this
   simp only[Bool.and_eq_true] at this
   exact⟨this.1,by rw[←hsub k hk];exact this.2.2⟩
  ·simp only[List.length_map] at hi
   have:=h1 i hi
   unfold Wj at this
   simp only[Bool.and_eq_true,decide_eq_true_eq] at this
   obtain⟨g4, -,h4⟩:=Lq.1 this.2.1
   simp only[List.getElem_map] at e
   exact h4 j hj e
 ·rintro ⟨h1,h2,h3⟩
  refine⟨fun k hk=> ?_,h2⟩
  have:=h1 k hk
  unfold Wj
  simp only[Bool.and_eq_true,decide_eq_true_eq]
  refine⟨this.1,Lq.2 ⟨hk,rfl,fun j hj=> ?_⟩,by rw[hsub k hk];exact this.2⟩
  have:=(ML _).1 h3 k (by simpa using hk) j hj
  simpa using this
theorem Bc {α:Type} {p:α→Bool} {l:List α} {k:Nat} (h:k<l.length):(l.drop k).all p=(p l[k] && (l.drop (k+1)).all p):=by
 rw[List.drop_eq_getElem_cons h];rfl
theorem BM {α:Type} {p:α→Bool} {l:List α} {k:Nat} (h:l.length≤k):(l.drop k).all p=true:=by
 rw[List.drop_eq_nil_of_le h];rfl
def cnt {α:Type} (p:α→Bool) (l:List α) (k:Nat):Nat:=(l.take k).countP p
theorem X7 {α:Type} (p:α→Bool) (l:List α):cnt p l 0=0:=rfl
theorem gb {α:Type} {p:α→Bool} {l:List α} {k:Nat} (h:k<l.length):cnt p l (k+1)=cnt p l k+if p l[k] then 1 else 0:=by
 unfold cnt;rw[Y' h,List.countP_append];simp[List.countP_cons]
theorem ah {α:Type} {p:α→Bool} {l:List α} {k:Nat} (h:l.length≤k):cnt p l k=l.countP p:=by
 unfold cnt;rw[List.take_of_length_le h]
theorem gc {α:Type} (p:α→Bool) (l:List α) (k:Nat):cnt p l k≤k:=by
 unfold cnt;have:=List.countP_le_length (p:=p) (l:=l.take k);have:=List.length_take_le k l;omega
def m1 (t:AU) (m:AY):Bool:=(siR t m.A5).2.2 && decide ((siR t m.A5).1.Am.length+1=m.Aa.length)
def m2 (x:AJ) (g:AC):Bool:=g.BS||(meR x g.A5).2.2
theorem Ja (t:AU) (x:AJ):Cy t x=(x.Ar.all (m1 t) && t.AW.all (m2 x)):=rfl
theorem BP {α:Type} {f:α→Int} {l:List α} {k:Nat} (h:k<l.length):fc f (l.drop k)=if f l[k]=0 then fc f (l.drop (k+1)) else f l[k]:=by
 rw[List.drop_eq_getElem_cons h];rfl
theorem Az {α:Type} {f:α→Int} {l:List α} {k:Nat} (h:l.length≤k):fc f (l.drop k)=0:=by
 rw[List.drop_eq_nil_of_le h];rfl
theorem Bo {l:List A0} {k:Nat} (h:k<l.length):AR l[k]≤Ag l:=by
 induction l generalizing k with
 |nil=>simp at h
 |cons x l ih=>
  cases k with
  |zero=>simp[Ag]
  |succ k=>have:=ih (k:=k) (by simpa using h);simp only[Ag,List.getElem_cons_succ];omega
def TP (g:AC):Bool:=decide (0<occ Ej g.B9)||g.Am.any fun p=>decide (0<occ Ej p)
theorem Rc (t:AU):aR t=(!t.B4 && !(t.AW.any TP)):=rfl
theorem Cc {α:Type} {p:α→Bool} {l:List α} {k:Nat} (h:k<l.length):(l.drop k).any p=(p l[k]||(l.drop (k+1)).any p):=by
 rw[List.drop_eq_getElem_cons h];rfl
theorem Bp {α:Type} {p:α→Bool} {l:List α} {k:Nat} (h:l.length≤k):(l.drop k).any p=false:=by
 rw[List.drop_eq_nil_of_le h];rfl
def mp {α β:Type} (f:α→β) (l:List α) (k:Nat):List β:=(l.take k).map f
theorem Cv {α β:Type} (f:α→β) (l:List α):mp f l 0=[]:=rfl
theorem Es {α β:Type} {f:α→β} {l:List α} {k:Nat} (h:k<l.length):mp f l (k+1)=mp f l k++[f l[k]]:=by
 unfold mp;rw[Y' h,List.map_append];rfl
theorem Bb {α β:Type} {f:α→β} {l:List α} {k:Nat} (h:l.length≤k):mp f l k=l.map f:=by
 unfold mp;rw[List.take_of_length_le h]
theorem Bh {α β:Type} (f:α→β) {l:List α} {k:Nat} (h:k≤l.length):(mp f l k).length=k:=by simp[mp,h]
attribute [simp] Cv Es
def arI (a:List Ac) (s:BA'):Int:=CT a fun x=>decide (x.AZ=s)
theorem TZ (a:List Ac) (c:AA):(arI a c.A5= -1∧c1 a c=false)∨∃j:Nat,∃h:j<a.length,arI a c.A5=(j:Int)∧c1 a c=decide (a[j].Aa.length=c.Av.length):=by
 have key:∀(l:List Ac) (i:Nat),fs (byF Ac.AZ c.A5) i l=(l.findIdx? fun x=>decide (x.AZ=c.A5)).bind fun j=>(l[j]?).map fun x=>(x,j+i):=by
  intro l
  induction l with
  |nil=>intro i;rfl
  |cons x l ih=>
   intro i
   rw[fs,List.findIdx?_cons]
   unfold byF
   by_cases h:x.AZ=c.A5
   ·simp[h]
   ·simp only[h,if_false,decide_false,Bool.false_eq_true]
    rw[show(fun (i:Nat) (x:Ac)=>if x.AZ=c.A5 then some (x,i) else none)=byF Ac.AZ c.A5 from rfl,ih (i+1)]
    cases l.findIdx? fun x=>decide (x.AZ=c.A5) with
    |none=>rfl
    |some j=>simp[Nat.add_assoc,Nat.add_comm 1 i]
 unfold arI CT c1 byN
 rw[key a 0]
 cases h:a.findIdx? fun x=>decide (x.AZ=c.A5) with
 |none=>exact .inl ⟨rfl,rfl⟩
 |some j=>
  have hj:=(List.findIdx?_eq_some_iff_getElem.1 h).1
  exact .inr ⟨j,hj,rfl,by simp[List.getElem?_eq_getElem hj]⟩
def kF (s:Nat) (i:Nat) (x:Nat):Option Nat:=if x=s then some i else none
def ixK (l:List Nat) (s:Nat):Int:=match fs (kF s) 0 l with
 |some i=>(i:Int)
 |none=> -1
theorem cW (s:Nat):∀(l:List Nat) (i:Nat),(fs (kF s) i l).isSome=F9 l s
 |[],_=>by simp[fs,F9]
 |x::l,i=>by
  rw[fs]
  unfold kF
  by_cases h:x=s
  ·simp[h,F9]
  ·simp only[h,if_false]
   rw[show(fun (i:Nat) (x:Nat)=>if x=s then some i else none)=kF s from rfl,cW s l (i+1)]
   simp[F9,Ne.symm h]
theorem R1 (l:List Nat) (s:Nat):decide (ixK l s≥0)=F9 l s:=by
 rw[←cW s l 0]
 unfold ixK
 cases fs (kF s) 0 l with
 |none=>simp
 |some i=>simp
theorem Vf (l:List Nat) (s:Nat):decide (0≤ixK l s)=F9 l s:=R1 l s
def ipF {α:Type} (p:α→Bool) (i:Nat) (x:α):Option Nat:=if p x then some i else none
theorem W6 {α:Type} (p:α→Bool):∀(l:List α) (i:Nat),fs (ipF p) i l=(l.findIdx? p).map (· +i)
 |[],_=>rfl
 |x::l,i=>by
  rw[fs,List.findIdx?_cons]
  unfold ipF
  by_cases h:p x=true
  ·simp[h]
  ·simp only[h,if_false,Bool.false_eq_true]
   rw[show(fun (i:Nat) (x:α)=>if p x=true then some i else none)=ipF p from rfl,W6 p l (i+1)]
   cases l.findIdx? p<;>simp<;>omega
theorem Ax {α:Type} (l:List α) (p:α→Bool):CT l p=match fs (ipF p) 0 l with
 |some i=>(i:Int)
 |none=> -1:=by
 rw[W6];unfold CT
 cases l.findIdx? p<;>simp
theorem Bi {α:Type} (l:List α) (p:α→Bool):decide (CT l p≥0)=l.any p:=BR l p
theorem gX {w:A1} {s:BA'} (h:(ctR w s).2.2=true):(daR w (ctR w s).1.A5).2.2=true:=by
 unfold ctR at h ⊢
 cases hq:fs (ctH s) 0 w.A2 with
 |none=>rw[hq] at h;simp[DX] at h
 |some x=>
  obtain⟨p,hp,j,h1⟩:=Dm hq
  obtain⟨d,hd,k,h2⟩:=Dm h1
  obtain⟨c,hc,q,h3⟩:=Dm h2
  unfold ctF at h3
  split at h3
  ·cases h3
   simp only[DX]
   unfold daR
   cases hz:inP A8.AE AF.A5 w d.A5 with
   |some y=>rfl
   |none=>
    exfalso
    have key:∀(l:List A8) (i:Nat),fs (inF A8.AE AF.A5 d.A5) i l=none→∀p∈l,∀d'∈p.AE,¬d'.A5=d.A5:=by
     intro l
     induction l with
     |nil=>intro _ _ p hp;simp at hp
     |cons x l ih=>
      intro i hn p hp d' hd'
      rw[fs] at hn
      cases hx:inF A8.AE AF.A5 d.A5 i x with
      |some y=>rw[hx] at hn;simp at hn
      |none=>
       rw[hx] at hn
       rcases List.mem_cons.1 hp with rfl|hp
       ·unfold inF at hx
        have key2:∀(m:List AF) (j:Nat),fs (nmF AF.A5 d.A5 i) j m=none→∀e∈m,¬e.A5=d.A5:=by
         intro m
         induction m with
         |nil=>intro _ _ e he;simp at he
         |cons y m ih2=>
          intro j hm e he
          rw[fs] at hm
          cases hy:nmF AF.A5 d.A5 i j y with
          |some z=>rw[hy] at hm;simp at hm
          |none=>
           rw[hy] at hm
           rcases List.mem_cons.1 he with rfl|he
           ·unfold nmF at hy;split at hy
            ·cases hy
            ·assumption
           ·exact ih2 _ hm e he
        exact key2 _ _ hx d' hd'
       ·exact ih _ hn p hp d' hd'
    exact key _ _ hz p hp d hd rfl
  ·cases h3
theorem gY (w:A1) (s:BA'):(ctR w s).1.A4.length≤w.sz:=by
 have h1:=gV w s;have h2:=(ctR w s).1.sz_eq;unfold szs at h2;omega
mutual
def A0.eqb:A0→A0→Bool
 |⟨k,n,l⟩,⟨k',n',l'⟩=>decide (k=k') && decide (n=n') && A0.eqbs l l'
def A0.eqbs:List A0→List A0→Bool
 |[],[]=>true
 |x::l,y::m=>A0.eqb x y && A0.eqbs l m
 |[],_::_=>false
 |_::_,[]=>false
end
mutual
theorem A0.eqb_iff:∀x y:A0,A0.eqb x y=true↔x=y
 |⟨k,n,l⟩,⟨k',n',l'⟩=>by
  have h:=A0.eqbs_iff l l'
  simp only[A0.eqb,Bool.and_eq_true,decide_eq_true_eq,h,A0.mk.injEq,and_assoc]
theorem A0.eqbs_iff:∀l m:List A0,A0.eqbs l m=true↔l=m
 |[],[]=>by simp[A0.eqbs]
 |x::l,y::m=>by
  have h1:=A0.eqb_iff x y
  have h2:=A0.eqbs_iff l m
  simp only[A0.eqbs,Bool.and_eq_true,h1,h2,List.cons.injEq]
 |[],_::_=>by simp[A0.eqbs]
 |_::_,[]=>by simp[A0.eqbs]
end
instance:DecidableEq A0:=fun x y=>decidable_of_iff _ (A0.eqb_iff x y)
def lkB:List A6→BA'→Option A0
 |[],_=>none
 |b::l,v=>if b.Fl=v then some b.AM else lkB l v
mutual
def ap (s:List A6):A0→A0
 |⟨k,n,l⟩=>match (if k=1 then lkB s n else none) with
  |some u=>u
  |none=>⟨k,n,aps s l⟩
def aps (s:List A6):List A0→List A0
 |[]=>[]
 |x::l=>ap s x::aps s l
end
theorem Mb (s:List A6):∀l,aps s l=l.map (ap s)
 |[]=>rfl
 |x::l=>by simp only[aps,Mb s l,List.map_cons]
mutual
def vin (U:List BA'):A0→Prop
 |⟨k,n,l⟩=>(k=1→n∈U)∧D8 U l
def D8 (U:List BA'):List A0→Prop
 |[]=>True
 |x::l=>vin U x∧D8 U l
end
def dom (s:List A6):List BA':=s.map A6.Fl
mutual
def Cp (D:List BA'):A0→Prop
 |⟨k,n,l⟩=>(k=1→n∉D)∧D7 D l
def D7 (D:List BA'):List A0→Prop
 |[]=>True
 |x::l=>Cp D x∧D7 D l
end
theorem Nj:∀{s:List A6} {v:BA'},v∉dom s→lkB s v=none
 |[],_,_=>rfl
 |b::s,v,h=>by
  simp only[dom,List.map_cons,List.mem_cons,not_or] at h
  rw[lkB,if_neg (fun e=>h.1 e.symm)];exact Nj h.2
theorem F7:∀{s:List A6} {v:BA'} {t:A0},lkB s v=some t→∃b∈s,b.Fl=v∧b.AM=t
 |[],_,_,h=>by simp[lkB] at h
 |b::s,v,t,h=>by
  rw[lkB] at h
  by_cases e:b.Fl=v
  · rw[if_pos e] at h;cases h;exact⟨b,by simp,e,rfl⟩
  · rw[if_neg e] at h
    obtain⟨c,h1,h2⟩:=F7 h
    exact⟨c,by simp[h1],h2⟩
theorem Ni:∀{s:List A6} {v:BA'},v∈dom s→∃t,lkB s v=some t
 |[],_,h=>by simp[dom] at h
 |b::s,v,h=>by
  rw[lkB]
  by_cases e:b.Fl=v
  · exact⟨_,if_pos e⟩
  · rw[if_neg e]
    simp only[dom,List.map_cons,List.mem_cons] at h
    exact Ni (h.resolve_left (fun q=>e q.symm))
mutual
theorem Ry {s:List A6}:∀{t:A0},Cp (dom s) t→ap s t=t
 |⟨k,n,l⟩,h=>by
  simp only[Cp] at h
  have:(if k=1 then lkB s n else none)=none:=by
   by_cases e:k=1
   · rw[if_pos e];exact Nj (h.1 e)
   · rw[if_neg e]
  rw[ap,this,KE h.2]
theorem KE {s:List A6}:∀{l:List A0},D7 (dom s) l→aps s l=l
 |[],_=>rfl
 |x::l,h=>by
  simp only[D7] at h
  rw[aps,Ry h.1,KE h.2]
end
structure Idm (U:List BA') (s:List A6):Prop where
  nd:(dom s).Nodup
  du:∀v∈dom s,v∈U
  fr:∀b∈s,Cp (dom s) b.AM
  vu:∀b∈s,vin U b.AM
mutual
theorem Fu {D:List BA'} {s:List A6} (hd:∀v∈D,v∈dom s) (h:∀b∈s,Cp D b.AM):∀t:A0,Cp D (ap s t)
 |⟨k,n,l⟩=>by
  rw[ap]
  split
  · rename_i u hu
    split at hu
    · obtain⟨b,h1, -,h3⟩:=F7 hu
      rw[←h3];exact h b h1
    · cases hu
  · rename_i hu
    simp only[Cp]
    refine⟨fun e hn=> ?_,Ny hd h l⟩
    rw[if_pos e] at hu
    obtain⟨t,ht⟩:=Ni (hd n hn)
    rw[ht] at hu;cases hu
theorem Ny {D:List BA'} {s:List A6} (hd:∀v∈D,v∈dom s) (h:∀b∈s,Cp D b.AM):∀l:List A0,D7 D (aps s l)
 |[]=>trivial
 |x::l=>by simp only[aps,D7];exact⟨Fu hd h x,Ny hd h l⟩
end
mutual
theorem HX {U:List BA'} {s:List A6} (h:∀b∈s,vin U b.AM):∀{t:A0},vin U t→vin U (ap s t)
 |⟨k,n,l⟩,ht=>by
  simp only[vin] at ht
  rw[ap]
  split
  · rename_i u hu
    split at hu
    · obtain⟨b,h1, -,h3⟩:=F7 hu
      rw[←h3];exact h b h1
    · cases hu
  · simp only[vin];exact⟨ht.1,Pp h ht.2⟩
theorem Pp {U:List BA'} {s:List A6} (h:∀b∈s,vin U b.AM):∀{l:List A0},D8 U l→D8 U (aps s l)
 |[],_=>trivial
 |x::l,hl=>by simp only[D8] at hl;simp only[aps,D8];exact⟨HX h hl.1,Pp h hl.2⟩
end
def bnd (s:List A6) (v:BA') (t:A0):List A6:=s.map (fun b=>(⟨b.Fl,ap [⟨v,t⟩] b.AM⟩:A6))++[⟨v,t⟩]
theorem MM (s:List A6) (v:BA') (t:A0):dom (bnd s v t)=dom s++[v]:=by simp[dom,bnd]
mutual
theorem NX {v:BA'}:∀{t:A0},occ v t=0→Cp [v] t
 |⟨k,n,l⟩,h=>by
  simp only[occ] at h
  simp only[Cp,List.mem_singleton]
  refine⟨fun e hn=> ?_,Ky (by omega)⟩
  rw[if_pos ⟨e,hn⟩] at h;omega
theorem Ky {v:BA'}:∀{l:List A0},DW v l=0→D7 [v] l
 |[],_=>trivial
 |x::l,h=>by simp only[DW] at h;simp only[D7];exact⟨NX (by omega),Ky (by omega)⟩
end
mutual
theorem Jp {D E:List BA'}:∀{t:A0},Cp D t→Cp E t→Cp (D++E) t
 |⟨k,n,l⟩,h,g=>by
  simp only[Cp] at h g ⊢
  exact⟨fun e hn=>(List.mem_append.1 hn).elim (h.1 e) (g.1 e),LB h.2 g.2⟩
theorem LB {D E:List BA'}:∀{l:List A0},D7 D l→D7 E l→D7 (D++E) l
 |[],_,_=>trivial
 |x::l,h,g=>by simp only[D7] at h g ⊢;exact⟨Jp h.1 g.1,LB h.2 g.2⟩
end
mutual
theorem Nz {D:List BA'} {s:List A6} (h:∀b∈s,Cp D b.AM):∀{t:A0},Cp D t→Cp D (ap s t)
 |⟨k,n,l⟩,ht=>by
  simp only[Cp] at ht
  rw[ap]
  split
  · rename_i u hu
    split at hu
    · obtain⟨b,h1, -,h3⟩:=F7 hu
      rw[←h3];exact h b h1
    · cases hu
  · simp only[Cp];exact⟨ht.1,LC h ht.2⟩
theorem LC {D:List BA'} {s:List A6} (h:∀b∈s,Cp D b.AM):∀{l:List A0},D7 D l→D7 D (aps s l)
 |[],_=>trivial
 |x::l,hl=>by simp only[D7] at hl;simp only[aps,D7];exact⟨Nz h hl.1,LC h hl.2⟩
end
theorem Idm.bnd {U:List BA'} {s:List A6} {v:BA'} {t:A0} (h:Idm U s) (hv:v∈U) (hn:v∉dom s) (ht:vin U t) (hf:Cp (dom s) t) (ho:occ v t=0):Idm U (bnd s v t):=by
  have h1:Cp [v] t:=NX ho
  refine⟨?_,fun x hx=> ?_,fun b hb=> ?_,fun b hb=> ?_⟩
  · rw[MM]
    refine List.nodup_append.2 ⟨h.nd,by simp,fun a ha b hb e=> ?_⟩
    simp only[List.mem_singleton] at hb
    subst hb;subst e;exact hn ha
  · rw[MM] at hx
    rcases List.mem_append.1 hx with hx|hx
    · exact h.du x hx
    · simp only[List.mem_singleton] at hx;subst hx;exact hv
  · rw[MM]
    unfold Go.Proofs.YtgihkamifpmfdaaGreatDoor.bnd at hb
    rcases List.mem_append.1 hb with hb|hb
    · obtain⟨c,hc,rfl⟩:=List.mem_map.1 hb
      refine Jp (Nz (fun d hd=> ?_) (h.fr c hc)) (Fu (fun x hx=>by simpa[dom] using hx) (fun d hd=> ?_) _)
      · simp only[List.mem_singleton] at hd;subst hd;exact hf
      · simp only[List.mem_singleton] at hd;subst hd;exact h1
    · simp only[List.mem_singleton] at hb;subst hb;exact Jp hf h1
  · unfold Go.Proofs.YtgihkamifpmfdaaGreatDoor.bnd at hb
    rcases List.mem_append.1 hb with hb|hb
    · obtain⟨c,hc,rfl⟩:=List.mem_map.1 hb
      exact HX (fun d hd=>by simp only[List.mem_singleton] at hd;subst hd;exact ht) (h.vu c hc)
    · simp only[List.mem_singleton] at hb;subst hb;exact ht
theorem Bu {α:Type} [DecidableEq α]:∀{l m:List α},l.Nodup→(∀x∈l,x∈m)→l.length≤m.length
 |[],_,_,_=>by simp
 |x::l,m,h,hs=>by
  have h1:=List.nodup_cons.1 h
  have h2:l.length≤(m.erase x).length:=Bu h1.2 (fun y hy=>(List.mem_erase_of_ne (fun e=>h1.1 (by rw[←e];exact hy))).2 (hs y (by simp[hy])))
  have h3:=List.length_erase_of_mem (hs x (by simp))
  have h4:=List.length_pos_of_mem (hs x (by simp))
  simp only[List.length_cons];omega
def unL (f:List A6→A0→A0→Option (Option (List A6))):List A6→List A0→List A0→Option (Option (List A6))
 |s,x::l,y::m=>match f s x y with
  |none=>none
  |some none=>some none
  |some (some s1)=>unL f s1 l m
 |s,_,_=>some (some s)
def big (t:A0):Prop:=4611686018427387904≤AR t
instance (t:A0):Decidable (big t):=inferInstanceAs (Decidable (4611686018427387904≤AR t))
def unV (s:List A6) (v:BA') (t:A0):Option (Option (List A6)):=if big t then none else some (if occ v t=0 then some (bnd s v t) else none)
def un (tb:A0→A0→Bool):Nat→List A6→A0→A0→Option (Option (List A6))
 |0,_,_,_=>none
 |n+1,s,a,b=>
  if ap s a=ap s b then some (some s)
  else if tb (ap s a) (ap s b) then some none
  else if (ap s a).AH=1 then unV s (ap s a).A5 (ap s b)
  else if (ap s b).AH=1 then unV s (ap s b).A5 (ap s a)
  else if (ap s a).AH=(ap s b).AH∧(ap s a).A5=(ap s b).A5∧(ap s a).AB.length=(ap s b).AB.length then unL (un tb n) s (ap s a).AB (ap s b).AB
  else some none
theorem J1 {f g:List A6→A0→A0→Option (Option (List A6))} (h:∀s a b r,f s a b=some r→g s a b=some r):∀(a b:List A0) (s:List A6) (r:Option (List A6)),unL f s a b=some r→unL g s a b=some r
 |x::l,y::m,s,r,e=>by
  rw[unL] at e ⊢
  cases hf:f s x y with
  |none=>rw[hf] at e;cases e
  |some q=>
    rw[hf] at e;rw[h _ _ _ _ hf]
    cases q with
    |none=>exact e
    |some s1=>exact J1 h l m s1 r e
 |[],_,s,r,e=>by simpa[unL] using e
 |_::_,[],s,r,e=>by simpa[unL] using e
theorem Pu {tb:A0→A0→Bool}:∀(n:Nat) (s:List A6) (a b:A0) (r:Option (List A6)),un tb n s a b=some r→un tb (n+1) s a b=some r
 |0,_,_,_,_,e=>by simp[un] at e
 |n+1,s,a,b,r,e=>by
  rw[un] at e ⊢
  split
  · rename_i h;rw[if_pos h] at e;exact e
  · rename_i h;rw[if_neg h] at e
    split
    · rename_i h;rw[if_pos h] at e;exact e
    · rename_i h;rw[if_neg h] at e
      split
      · rename_i h;rw[if_pos h] at e;exact e
      · rename_i h;rw[if_neg h] at e
        split
        · rename_i h;rw[if_pos h] at e;exact e
        · rename_i h;rw[if_neg h] at e
          split
          · rename_i h;rw[if_pos h] at e;exact J1 (Pu n) _ _ _ _ e
          · rename_i h;rw[if_neg h] at e;exact e
theorem ba {tb:A0→A0→Bool} {n m:Nat} (h:n≤m) {s:List A6} {a b:A0} {r:Option (List A6)} (e:un tb n s a b=some r):un tb m s a b=some r:=by
  induction h with
  |refl=>exact e
  |step _ ih=>exact Pu _ _ _ _ _ ih
theorem dL {tb:A0→A0→Bool} {n m:Nat} (h:n≤m) {s:List A6} {a b:List A0} {r:Option (List A6)} (e:unL (un tb n) s a b=some r):unL (un tb m) s a b=some r:=J1 (fun _ _ _ _ q=>ba h q) _ _ _ _ e
def gB:Nat→Nat
 |0=>60
 |1=>3600
 |2=>12960000
 |n+3=>gB (n+2)*4000
theorem aB:∀k x t:Nat,x≤gB k→t≤gB k→t≤4000→x*t≤gB (k+1)
 |0,_,_,h1,h2,_=>Nat.mul_le_mul h1 h2
 |1,_,_,h1,h2,_=>Nat.mul_le_mul h1 h2
 |_+2,_,_,h1,_,h3=>Nat.mul_le_mul h1 h3
theorem pO:∀k,k≤5→gB k≤829440000000000000
 |0,_=>by decide
 |1,_=>by decide
 |2,_=>by decide
 |3,_=>by decide
 |4,_=>by decide
 |5,_=>by decide
 |k+6,h=>by omega
def grw (s s1:List A6):Prop:=∀y,AR (ap s y)≤gB s.length→AR (ap s1 y)≤gB s1.length
def UnR (U:List BA') (s:List A6):Option (List A6)→Prop
 |none=>True
 |some s1=>Idm U s1∧(s1=s∨s.length<s1.length)∧grw s s1
theorem Hw {D:List BA'} {t:A0} (h:Cp D t) (e:t.AH=1):t.A5∉D:=by cases t;simp only[Cp] at h;exact h.1 e
theorem GS {D:List BA'} {t:A0} (h:vin D t) (e:t.AH=1):t.A5∈D:=by cases t;simp only[vin] at h;exact h.1 e
theorem Hy {D:List BA'} {t:A0} (h:Cp D t):D7 D t.AB:=by cases t;simp only[Cp] at h;exact h.2
theorem Ed {D:List BA'} {t:A0} (h:vin D t):D8 D t.AB:=by cases t;simp only[vin] at h;exact h.2
theorem BG (t:A0):Ag t.AB<AR t:=by cases t;simp only[AR];omega
theorem Xm {s:List A6} {l:List A0} (h:D7 (dom s) l):Ag (aps s l)=Ag l:=by rw[KE h]
theorem MS (s:List A6) (v:BA') (t:A0):(bnd s v t).length=s.length+1:=by simp[bnd]
theorem Kk (t:A0):0<AR t:=by cases t;simp only[AR];omega
theorem Idm.len {U:List BA'} {s:List A6} (h:Idm U s):s.length≤U.length:=by
 have:=Bu h.nd h.du
 simpa[dom] using this
theorem Idm.lt {U:List BA'} {s:List A6} {v:BA'} (h:Idm U s) (hv:v∈U) (hn:v∉dom s):s.length<U.length:=by
 have := Bu (l := v :: dom s) (m := U) (List.nodup_cons.2 ⟨hn, h.nd⟩) (fun x hx => by
  rcases List.mem_cons.1 hx with rfl|hx
  · exact hv
  · exact h.du x hx)
 simp[dom] at this;omega
theorem Qv {v:BA'} {t:A0} {n:BA'}:∀{s:List A6},lkB (bnd s v t) n=match lkB s n with|some u=>some (ap [⟨v,t⟩] u)|none=>if v=n then some t else none
 |[]=>by simp[bnd,lkB]
 |b::s=>by
  have h:=@Qv v t n s
  unfold bnd at h ⊢
  simp only[List.map_cons,List.cons_append,lkB]
  by_cases e:b.Fl=n
  · simp[e]
  · simp only[if_neg e];exact h
mutual
theorem Xp (s:List A6) (v:BA') (t:A0):∀y:A0,ap (bnd s v t) y=ap [⟨v,t⟩] (ap s y)
 |⟨k,n,l⟩=>by
  have hl:=Rx s v t l
  by_cases hk:k=1
  · subst hk
    simp only[ap,if_true,Qv]
    cases h:lkB s n with
    |some u=>simp
    |none=>
      simp only[ap,if_true,lkB]
      by_cases e:v=n
      · simp[e]
      · simp[e,hl]
  · simp only[ap,if_neg hk,hl]
theorem Rx (s:List A6) (v:BA') (t:A0):∀l:List A0,aps (bnd s v t) l=aps [⟨v,t⟩] (aps s l)
 |[]=>rfl
 |x::l=>by simp only[aps,Xp s v t x,Rx s v t l]
end
mutual
theorem UU (v:BA') (t:A0):∀y:A0,AR (ap [⟨v,t⟩] y)≤AR y*AR t
 |⟨k,n,l⟩=>by
  have hl:=Q3 v t l
  have hp:=Kk t
  rw[ap]
  split
  · rename_i u hu
    split at hu
    · simp only[lkB] at hu
      split at hu
      · cases hu
        simp only[AR,Nat.add_mul,Nat.one_mul];omega
      · cases hu
    · cases hu
  · simp only[AR,Nat.add_mul,Nat.one_mul];omega
theorem Q3 (v:BA') (t:A0):∀l:List A0,Ag (aps [⟨v,t⟩] l)≤Ag l*AR t
 |[]=>by simp[aps,Ag]
 |x::l=>by
  have h1:=UU v t x
  have h2:=Q3 v t l
  simp only[aps,Ag,Nat.add_mul];omega
end
theorem Nv (s:List A6):grw s s:=fun _ h=>h
theorem TK {s s1 s2:List A6} (h:grw s s1) (g:grw s1 s2):grw s s2:=fun y q=>g y (h y q)
theorem RN {s:List A6} {v:BA'} {t:A0} (h1:AR t≤gB s.length) (h2:AR t≤4000):grw s (bnd s v t):=fun y q=>by
  rw[Xp,MS]
  exact Nat.le_trans (UU v t _) (aB _ _ _ q h1 h2)
def dc (tb:A0→A0→Bool):Prop:=∀a b,tb a b=false→¬big a→¬big b→AR a≤4000∧AR b≤4000
theorem Io {U:List BA'} {s:List A6} {v:BA'} {x:A0} (h:Idm U s) (hU:U.length≤6) (hv:v∈U) (hn:v∉dom s) (hx:AR x≤gB s.length):¬big x:=by
  have h1:=h.lt hv hn
  have h2:=pO s.length (by omega)
  unfold big;omega
theorem W4 {s:List A6} {l:List A0} {B:Nat} (h:∀x∈l,Cp (dom s) x) (hs:Ag l≤B):∀x∈l,AR (ap s x)≤B:=by
  intro x hx
  rw[Ry (h x hx)]
  have:∀{l:List A0},x∈l→AR x≤Ag l:=by
    intro l
    induction l with
    |nil=>intro h;simp at h
    |cons y l ih=>
      intro h
      simp only[Ag]
      rcases List.mem_cons.1 h with rfl|h
      · omega
      · have:=ih h;omega
  have:=this hx;omega
theorem Hv {D:List BA'}:∀{l:List A0},D7 D l→∀x∈l,Cp D x
 |[],_,x,hx=>by simp at hx
 |y::l,h,x,hx=>by
  simp only[D7] at h
  rcases List.mem_cons.1 hx with rfl|hx
  · exact h.1
  · exact Hv h.2 x hx
theorem dH (tb:A0→A0→Bool) (ht:dc tb) (U:List BA') (hU:U.length≤6):∀(n m:Nat) (s:List A6) (a b:List A0),Idm U s→U.length - s.length=n→Ag (aps s a)=m→a.length=b.length→D8 U a→D8 U b→(∀x∈a,AR (ap s x)≤gB s.length)→(∀x∈b,AR (ap s x)≤gB s.length)→∃h r,unL (un tb h) s a b=some r∧UnR U s r:=by
  intro n
  induction n using Nat.strongRecOn with
  |ind n ihn=>
  intro m
  induction m using Nat.strongRecOn with
  |ind m ihm=>
  intro s a b hs hn hm hl ha hb hza hzb
  match a,b,hl with
  |[],[],_=>exact⟨0,_,rfl,hs,.inl rfl,Nv s⟩
  |x::l,y::k,hl=>
    simp only[List.length_cons,Nat.add_right_cancel_iff] at hl
    simp only[D8] at ha hb
    simp only[aps,Ag] at hm
    have hzx:=hza x (by simp);have hzy:=hzb y (by simp)
    have hfx:Cp (dom s) (ap s x):=Fu (fun _ h=>h) hs.fr x
    have hfy:Cp (dom s) (ap s y):=Fu (fun _ h=>h) hs.fr y
    have hvx:vin U (ap s x):=HX hs.vu ha.1
    have hvy:vin U (ap s y):=HX hs.vu hb.1
    have one:∃h r,un tb h s x y=some r∧UnR U s r:=by
      by_cases e:ap s x=ap s y
      · exact⟨1,some s,by rw[un,if_pos e],hs,.inl rfl,Nv s⟩
      cases et:tb (ap s x) (ap s y) with
      |true=>exact⟨1,none,by rw[un,if_neg e,if_pos et],trivial⟩
      |false=>
        have et':¬tb (ap s x) (ap s y)=true:=by simp[et]
        by_cases ex:(ap s x).AH=1
        · have nx:=GS hvx ex;have mx:=Hw hfx ex
          have b1:=Io hs hU nx mx hzx;have b2:=Io hs hU nx mx hzy
          have hq:=ht _ _ et b1 b2
          refine⟨1,_,by rw[un,if_neg e,if_neg et',if_pos ex,unV,if_neg b2],?_⟩
          split
          · rename_i ho
            exact⟨hs.bnd nx mx hvy hfy ho,.inr (by rw[MS];omega),RN hzy hq.2⟩
          · trivial
        by_cases ey:(ap s y).AH=1
        · have nx:=GS hvy ey;have mx:=Hw hfy ey
          have b1:=Io hs hU nx mx hzx;have b2:=Io hs hU nx mx hzy
          have hq:=ht _ _ et b1 b2
          refine⟨1,_,by rw[un,if_neg e,if_neg et',if_neg ex,if_pos ey,unV,if_neg b1],?_⟩
          split
          · rename_i ho
            exact⟨hs.bnd nx mx hvx hfx ho,.inr (by rw[MS];omega),RN hzx hq.1⟩
          · trivial
        by_cases eo:(ap s x).AH=(ap s y).AH∧(ap s x).A5=(ap s y).A5∧(ap s x).AB.length=(ap s y).AB.length
        · have h1:=BG (ap s x);have h2:=BG (ap s y)
          obtain⟨h,r,g1,g2⟩:=ihm (Ag (ap s x).AB) (by omega) s (ap s x).AB (ap s y).AB hs hn (Xm (Hy hfx)) eo.2.2 (Ed hvx) (Ed hvy) (W4 (Hv (Hy hfx)) (by omega)) (W4 (Hv (Hy hfy)) (by omega))
          exact⟨h+1,r,by rw[un,if_neg e,if_neg et',if_neg ex,if_neg ey,if_pos eo];exact g1,g2⟩
        · exact⟨1,none,by rw[un,if_neg e,if_neg et',if_neg ex,if_neg ey,if_neg eo],trivial⟩
    obtain⟨h,r,g1,g2⟩:=one
    cases r with
    |none=>exact⟨h,none,by rw[unL,g1],trivial⟩
    |some s1=>
      obtain⟨hs1,g3,gg⟩:=g2
      have fin:∀h2 r,unL (un tb h2) s1 l k=some r→∃h3,unL (un tb h3) s (x::l) (y::k)=some r:=fun h2 r q=>by
        refine⟨max h h2,?_⟩
        rw[unL,ba (Nat.le_max_left h h2) g1]
        exact dL (Nat.le_max_right h h2) q
      have hza1:∀z∈l,AR (ap s1 z)≤gB s1.length:=fun z hz=>gg z (hza z (by simp[hz]))
      have hzb1:∀z∈k,AR (ap s1 z)≤gB s1.length:=fun z hz=>gg z (hzb z (by simp[hz]))
      rcases g3 with rfl|g3
      · have:=Kk (ap s1 x)
        obtain⟨h2,r,k1,k2⟩:=ihm (Ag (aps s1 l)) (by omega) s1 l k hs1 hn rfl hl ha.2 hb.2 hza1 hzb1
        obtain⟨h3,q⟩:=fin h2 r k1
        exact⟨h3,r,q,k2⟩
      · have hl1:=hs1.len
        obtain⟨h2,r,k1,k2⟩:=ihn (U.length - s1.length) (by omega) _ s1 l k hs1 rfl rfl hl ha.2 hb.2 hza1 hzb1
        obtain⟨h3,q⟩:=fin h2 r k1
        refine⟨h3,r,q,?_⟩
        cases r with
        |none=>trivial
        |some s2=>
          refine⟨k2.1,.inr ?_,TK gg k2.2.2⟩
          rcases k2.2.1 with rfl|q
          · exact g3
          · omega
theorem Idm.nil (U:List BA'):Idm U []:=⟨by simp[dom],by simp[dom],by simp,by simp⟩
mutual
theorem Pd:∀t:A0,ap [] t=t
 |⟨k,n,l⟩=>by simp[ap,lkB,Rw l]
theorem Rw:∀l:List A0,aps [] l=l
 |[]=>rfl
 |x::l=>by simp only[aps,Pd x,Rw l]
end
def uOk (a b:A0):Prop:=∃U:List BA',U.length≤6∧vin U a∧vin U b∧AR a≤60∧AR b≤60
theorem U4 (tb:A0→A0→Bool) (ht:dc tb) {a b:A0} (h:uOk a b):∃n r,unL (un tb n) [] [a] [b]=some r:=by
  obtain⟨U,hU,ha,hb,hza,hzb⟩:=h
  obtain⟨h,r,h1, -⟩:=dH tb ht U hU _ _ [] [a] [b] (Idm.nil U) rfl rfl rfl ⟨ha,trivial⟩ ⟨hb,trivial⟩ (by simp[Pd,gB,hza]) (by simp[Pd,gB,hzb])
  exact⟨h,r,h1⟩
mutual
def mtT:A0→A0→List A6→Option (List A6)
 |⟨k,n,l⟩,t,s=>
  if k = 1 then (match lkB s n with
   |some u=>if u=t then some s else none
   |none=>some (s++[⟨n,t⟩]))
  else if k=t.AH∧n=t.A5∧l.length=t.AB.length then DJ l t.AB s else none
def DJ:List A0→List A0→List A6→Option (List A6)
 |x::l,y::m,s=>match mtT x y s with
  |some s1=>DJ l m s1
  |none=>none
 |_,_,s=>some s
end
def mtc (p t:A0):Option (List A6):=mtT p t []
def mtB (p t:A0):Bool:=(mtc p t).isSome
def Gw (a b:A0):Bool:=mtB b a && !mtB a b
def Al (w:A1) (s:BA'):List BA':=(trR w s).1.Aq
def sup (w:A1):Nat→List BA'→List BA'→Option (List BA')
 |_,[],out=>some out
 |0,_::_,_=>none
 |n+1,s::l,out=>if B7 out s then sup w n l out else match sup w n (Al w s) (out++[s]) with
  |some o=>sup w n l o
  |none=>none
theorem Gj {w:A1}:∀(n:Nat) (l out r:List BA'),sup w n l out=some r→sup w (n+1) l out=some r
 |n,[],out,r,h=>by cases n<;>simpa[sup] using h
 |0,_::_,_,_,h=>by simp[sup] at h
 |n+1,s::l,out,r,h=>by
  rw[sup] at h ⊢
  by_cases e:B7 out s=true
  · rw[if_pos e] at h ⊢;exact Gj n l out r h
  · rw[if_neg e] at h ⊢
    cases h1:sup w n (Al w s) (out++[s]) with
    |none=>rw[h1] at h;cases h
    |some o=>
      rw[h1] at h;rw[Gj n _ _ _ h1]
      exact Gj n l o r h
theorem Lf {w:A1} {n m:Nat} (h:n≤m) {l out r:List BA'} (e:sup w n l out=some r):sup w m l out=some r:=by
  induction h with
  |refl=>exact e
  |step _ ih=>exact Gj _ _ _ _ ih
def Uf (w:A1):List BA':=w.A2.flatMap fun p=>p.Aj.flatMap AU.Aq
theorem Gi {w:A1} {s t:BA'} (h:t∈Al w s):t∈Uf w:=by
  unfold Al trR at h
  cases hq:inP A8.Aj AU.A5 w s with
  |none=>rw[hq] at h;simp[DX,zTr] at h
  |some x=>
    obtain⟨x,i⟩:=x
    rw[hq] at h
    simp only[DX] at h
    obtain⟨⟨p,hp,hx⟩, -⟩:=M4 hq
    exact List.mem_flatMap.2 ⟨p,hp,List.mem_flatMap.2 ⟨x,hx,h⟩⟩
theorem Ud (w:A1) (U:List BA') (hU:∀s t,t∈Al w s→t∈U):∀(n m:Nat) (l out:List BA'),U.length - out.length=n→l.length=m→out.Nodup→(∀s∈out,s∈U)→(∀s∈l,s∈U)→∃h r,sup w h l out=some r∧r.Nodup∧(∀s∈r,s∈U)∧out.length≤r.length:=by
  intro n
  induction n using Nat.strongRecOn with
  |ind n ihn=>
  intro m
  induction m using Nat.strongRecOn with
  |ind m ihm=>
  intro l out hn hm hd ho hl
  match l with
  |[]=>exact⟨0,out,rfl,hd,ho,Nat.le_refl _⟩
  |s::l=>
    simp only[List.length_cons] at hm
    have hl2:∀t∈l,t∈U:=fun t ht=>hl t (by simp[ht])
    by_cases e:B7 out s=true
    · obtain⟨h,r,h1,h2⟩:=ihm l.length (by omega) l out hn rfl hd ho hl2
      exact⟨h+1,r,by rw[sup,if_pos e];exact h1,h2⟩
    · have hs:s∉out:=fun q=>e (List.any_eq_true.2 ⟨s,q,by simp⟩)
      have hd1:(out++[s]).Nodup:=List.nodup_append.2 ⟨hd,by simp,fun a ha b hb q=>by simp only[List.mem_singleton] at hb;subst hb;subst q;exact hs ha⟩
      have ho1:∀t∈out++[s],t∈U:=fun t ht=>by
        rcases List.mem_append.1 ht with q|q
        · exact ho t q
        · simp only[List.mem_singleton] at q;subst q;exact hl t (by simp)
      have hlen:=Bu hd1 ho1
      simp only[List.length_append,List.length_singleton] at hlen
      obtain⟨h,o,h1,h2,h3,h4⟩:=ihn (U.length - (out++[s]).length) (by simp;omega) _ (Al w s) (out++[s]) rfl rfl hd1 ho1 (fun t ht=>hU s t ht)
      simp only[List.length_append,List.length_singleton] at h4
      have hlo:=Bu h2 h3
      obtain⟨h',r,k1,k2,k3,k4⟩:=ihn (U.length - o.length) (by omega) _ l o rfl rfl h2 h3 hl2
      refine⟨max h h'+1,r,?_,k2,k3,by omega⟩
      rw[sup,if_neg e,Lf (Nat.le_max_left h h') h1]
      exact Lf (Nat.le_max_right h h') k1
theorem Kr (w:A1) (s:BA'):∃h r,sup w h (Al w s) []=some r:=by
  obtain⟨h,r,h1, -⟩:=Ud w (Uf w) (fun s t ht=>Gi ht) _ _ (Al w s) [] rfl rfl (by simp) (by simp) (fun t ht=>Gi ht)
  exact⟨h,r,h1⟩
noncomputable def Ce (w:A1) (s:BA'):List BA':=Classical.choose (Classical.choose_spec (Kr w s))
theorem Md (w:A1) (s:BA'):∃h,sup w h (Al w s) []=some (Ce w s):=⟨_,Classical.choose_spec (Classical.choose_spec (Kr w s))⟩
def pth (w:A1) (to:BA'):Nat→BA'→Option (List Nat)
 |n,s=>if s=to then some [] else match n with
  |0=>none
  |n+1=>fs (fun i t=>(pth w to n t).map (i:: ·)) 0 (Al w s)
