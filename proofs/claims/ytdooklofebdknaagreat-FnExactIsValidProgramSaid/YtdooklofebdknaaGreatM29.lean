/- Part 29. No condition. -/
import Derived.Test.YtdooklofebdknaaGreatM22
import Derived.Test.YtdooklofebdknaaGreatM28
namespace Go.Proofs.YtdooklofebdknaaGreat
open Go.RowKit
set_option linter.unusedVariables false
set_option maxRecDepth 10000
set_option linter.unusedSimpArgs false
set_option maxHeartbeats 4000000
theorem Bb {α:Type} {p:α→Bool} {l:List α} {k:Nat} (h:k<l.length):(l.drop k).all p=(p l[k] && (l.drop (k+1)).all p):=by
 rw[List.drop_eq_getElem_cons h];rfl
theorem BK {α:Type} {p:α→Bool} {l:List α} {k:Nat} (h:l.length≤k):(l.drop k).all p=true:=by
 rw[List.drop_eq_nil_of_le h];rfl
def cnt {α:Type} (p:α→Bool) (l:List α) (k:Nat):Nat:=(l.take k).countP p
theorem WF {α:Type} (p:α→Bool) (l:List α):cnt p l 0=0:=rfl
theorem f6 {α:Type} {p:α→Bool} {l:List α} {k:Nat} (h:k<l.length):cnt p l (k+1)=cnt p l k+if p l[k] then 1 else 0:=by
 unfold cnt;rw[Y' h,List.countP_append];simp[List.countP_cons]
theorem ZP {α:Type} {p:α→Bool} {l:List α} {k:Nat} (h:l.length≤k):cnt p l k=l.countP p:=by
 unfold cnt;rw[List.take_of_length_le h]
theorem f7 {α:Type} (p:α→Bool) (l:List α) (k:Nat):cnt p l k≤k:=by
 unfold cnt;have:=List.countP_le_length (p:=p) (l:=l.take k);have:=List.length_take_le k l;omega
def m1 (t:AS) (m:AX):Bool:=(siR t m.A6).2.2 && decide ((siR t m.A6).1.Al.length+1=m.AZ.length)
def m2 (x:AJ) (g:AC):Bool:=g.BR||(meR x g.A6).2.2
theorem JH (t:AS) (x:AJ):Cv t x=(x.Ap.all (m1 t) && t.AU.all (m2 x)):=rfl
theorem BN {α:Type} {f:α→Int} {l:List α} {k:Nat} (h:k<l.length):fc f (l.drop k)=if f l[k]=0 then fc f (l.drop (k+1)) else f l[k]:=by
 rw[List.drop_eq_getElem_cons h];rfl
theorem Ax {α:Type} {f:α→Int} {l:List α} {k:Nat} (h:l.length≤k):fc f (l.drop k)=0:=by
 rw[List.drop_eq_nil_of_le h];rfl
theorem Bo {l:List A0} {k:Nat} (h:k<l.length):AQ l[k]≤Ae l:=by
 induction l generalizing k with
 |nil=>simp at h
 |cons x l ih=>
  cases k with
  |zero=>simp[Ae]
  |succ k=>have:=ih (k:=k) (by simpa using h);simp only[Ae,List.getElem_cons_succ];omega
def Sj (g:AC):Bool:=decide (0<occ Eh g.B8)||g.Al.any fun p=>decide (0<occ Eh p)
theorem R3 (t:AS):ZC t=(!t.B3 && !(t.AU.any Sj)):=rfl
theorem Ca {α:Type} {p:α→Bool} {l:List α} {k:Nat} (h:k<l.length):(l.drop k).any p=(p l[k]||(l.drop (k+1)).any p):=by
 rw[List.drop_eq_getElem_cons h];rfl
theorem Bp {α:Type} {p:α→Bool} {l:List α} {k:Nat} (h:l.length≤k):(l.drop k).any p=false:=by
 rw[List.drop_eq_nil_of_le h];rfl
def mp {α β:Type} (f:α→β) (l:List α) (k:Nat):List β:=(l.take k).map f
theorem Cu {α β:Type} (f:α→β) (l:List α):mp f l 0=[]:=rfl
theorem Ep {α β:Type} {f:α→β} {l:List α} {k:Nat} (h:k<l.length):mp f l (k+1)=mp f l k++[f l[k]]:=by
 unfold mp;rw[Y' h,List.map_append];rfl
theorem Ba {α β:Type} {f:α→β} {l:List α} {k:Nat} (h:l.length≤k):mp f l k=l.map f:=by
 unfold mp;rw[List.take_of_length_le h]
theorem Bh {α β:Type} (f:α→β) {l:List α} {k:Nat} (h:k≤l.length):(mp f l k).length=k:=by simp[mp,h]
attribute [simp] Cu Ep
def arI (a:List Ab) (s:ByteArray):Int:=CR a fun x=>decide (x.AY=s)
theorem Sv (a:List Ab) (c:AA):(arI a c.A6= -1∧c1 a c=false)∨∃j:Nat,∃h:j<a.length,arI a c.A6=(j:Int)∧c1 a c=decide (a[j].AZ.length=c.At.length):=by
 have key:∀(l:List Ab) (i:Nat),fs (byF Ab.AY c.A6) i l=(l.findIdx? fun x=>decide (x.AY=c.A6)).bind fun j=>(l[j]?).map fun x=>(x,j+i):=by
  intro l
  induction l with
  |nil=>intro i;rfl
  |cons x l ih=>
   intro i
   rw[fs,List.findIdx?_cons]
   unfold byF
   by_cases h:x.AY=c.A6
   ·simp[h]
   ·simp only[h,if_false,decide_false,Bool.false_eq_true]
    rw[show(fun (i:Nat) (x:Ab)=>if x.AY=c.A6 then some (x,i) else none)=byF Ab.AY c.A6 from rfl,ih (i+1)]
    cases l.findIdx? fun x=>decide (x.AY=c.A6) with
    |none=>rfl
    |some j=>simp[Nat.add_assoc,Nat.add_comm 1 i]
 unfold arI CR c1 byN
 rw[key a 0]
 cases h:a.findIdx? fun x=>decide (x.AY=c.A6) with
 |none=>exact .inl ⟨rfl,rfl⟩
 |some j=>
  have hj:=(List.findIdx?_eq_some_iff_getElem.1 h).1
  exact .inr ⟨j,hj,rfl,by simp[List.getElem?_eq_getElem hj]⟩
def kF (s:Nat) (i:Nat) (x:Nat):Option Nat:=if x=s then some i else none
def ixK (l:List Nat) (s:Nat):Int:=match fs (kF s) 0 l with
 |some i=>(i:Int)
 |none=> -1
theorem bA (s:Nat):∀(l:List Nat) (i:Nat),(fs (kF s) i l).isSome=F7 l s
 |[],_=>by simp[fs,F7]
 |x::l,i=>by
  rw[fs]
  unfold kF
  by_cases h:x=s
  ·simp[h,F7]
  ·simp only[h,if_false]
   rw[show(fun (i:Nat) (x:Nat)=>if x=s then some i else none)=kF s from rfl,bA s l (i+1)]
   simp[F7,Ne.symm h]
theorem Qb (l:List Nat) (s:Nat):decide (ixK l s≥0)=F7 l s:=by
 rw[←bA s l 0]
 unfold ixK
 cases fs (kF s) 0 l with
 |none=>simp
 |some i=>simp
theorem V5 (l:List Nat) (s:Nat):decide (0≤ixK l s)=F7 l s:=Qb l s
def ipF {α:Type} (p:α→Bool) (i:Nat) (x:α):Option Nat:=if p x then some i else none
theorem VV {α:Type} (p:α→Bool):∀(l:List α) (i:Nat),fs (ipF p) i l=(l.findIdx? p).map (· +i)
 |[],_=>rfl
 |x::l,i=>by
  rw[fs,List.findIdx?_cons]
  unfold ipF
  by_cases h:p x=true
  ·simp[h]
  ·simp only[h,if_false,Bool.false_eq_true]
   rw[show(fun (i:Nat) (x:α)=>if p x=true then some i else none)=ipF p from rfl,VV p l (i+1)]
   cases l.findIdx? p<;>simp<;>omega
theorem Av {α:Type} (l:List α) (p:α→Bool):CR l p=match fs (ipF p) 0 l with
 |some i=>(i:Int)
 |none=> -1:=by
 rw[VV];unfold CR
 cases l.findIdx? p<;>simp
theorem Bi {α:Type} (l:List α) (p:α→Bool):decide (CR l p≥0)=l.any p:=BQ l p
theorem ew {w:A1} {s:ByteArray} (h:(ctR w s).2.2=true):(daR w (ctR w s).1.A6).2.2=true:=by
 unfold ctR at h ⊢
 cases hq:fs (ctH s) 0 w.A2 with
 |none=>rw[hq] at h;simp[DW] at h
 |some x=>
  obtain⟨p,hp,j,h1⟩:=Dk hq
  obtain⟨d,hd,k,h2⟩:=Dk h1
  obtain⟨c,hc,q,h3⟩:=Dk h2
  unfold ctF at h3
  split at h3
  ·cases h3
   simp only[DW]
   unfold daR
   cases hz:inP A8.AE AF.A6 w d.A6 with
   |some y=>rfl
   |none=>
    exfalso
    have key:∀(l:List A8) (i:Nat),fs (inF A8.AE AF.A6 d.A6) i l=none→∀p∈l,∀d'∈p.AE,¬d'.A6=d.A6:=by
     intro l
     induction l with
     |nil=>intro _ _ p hp;simp at hp
     |cons x l ih=>
      intro i hn p hp d' hd'
      rw[fs] at hn
      cases hx:inF A8.AE AF.A6 d.A6 i x with
      |some y=>rw[hx] at hn;simp at hn
      |none=>
       rw[hx] at hn
       rcases List.mem_cons.1 hp with rfl|hp
       ·unfold inF at hx
        have key2:∀(m:List AF) (j:Nat),fs (nmF AF.A6 d.A6 i) j m=none→∀e∈m,¬e.A6=d.A6:=by
         intro m
         induction m with
         |nil=>intro _ _ e he;simp at he
         |cons y m ih2=>
          intro j hm e he
          rw[fs] at hm
          cases hy:nmF AF.A6 d.A6 i j y with
          |some z=>rw[hy] at hm;simp at hm
          |none=>
           rw[hy] at hm
           rcases List.mem_cons.1 he with rfl|he
           ·unfold nmF at hy;split at hy
            ·cases hy
            ·assumption
           ·exact ih2 _ hm e he
        exact key2 _ _ hx d' hd'
       ·exact ih _ hn p hp d' hd'
    exact key _ _ hz p hp d hd rfl
  ·cases h3
theorem ez (w:A1) (s:ByteArray):(ctR w s).1.A4.length≤w.sz:=by
 have h1:=en w s;have h2:=(ctR w s).1.sz_eq;unfold szs at h2;omega
mutual
def A0.eqb:A0→A0→Bool
 |⟨k,n,l⟩,⟨k',n',l'⟩=>decide (k=k') && decide (n=n') && A0.eqbs l l'
def A0.eqbs:List A0→List A0→Bool
 |[],[]=>true
 |x::l,y::m=>A0.eqb x y && A0.eqbs l m
 |[],_::_=>false
 |_::_,[]=>false
end
mutual
theorem A0.eqb_iff:∀x y:A0,A0.eqb x y=true↔x=y
 |⟨k,n,l⟩,⟨k',n',l'⟩=>by
  have h:=A0.eqbs_iff l l'
  simp only[A0.eqb,Bool.and_eq_true,decide_eq_true_eq,h,A0.mk.injEq,and_assoc]
theorem A0.eqbs_iff:∀l m:List A0,A0.eqbs l m=true↔l=m
 |[],[]=>by simp[A0.eqbs]
 |x::l,y::m=>by
  have h1:=A0.eqb_iff x y
  have h2:=A0.eqbs_iff l m
  simp only[A0.eqbs,Bool.and_eq_true,h1,h2,List.cons.injEq]
 |[],_::_=>by simp[A0.eqbs]
 |_::_,[]=>by simp[A0.eqbs]
end
instance:DecidableEq A0:=fun x y=>decidable_of_iff _ (A0.eqb_iff x y)
def lkB:List A5→ByteArray→Option A0
 |[],_=>none
 |b::l,v=>if b.Fj=v then some b.AM else lkB l v
mutual
def ap (s:List A5):A0→A0
 |⟨k,n,l⟩=>match (if k=1 then lkB s n else none) with
  |some u=>u
  |none=>⟨k,n,aps s l⟩
def aps (s:List A5):List A0→List A0
 |[]=>[]
 |x::l=>ap s x::aps s l
end
theorem ME (s:List A5):∀l,aps s l=l.map (ap s)
 |[]=>rfl
 |x::l=>by simp only[aps,ME s l,List.map_cons]
mutual
def vin (U:List ByteArray):A0→Prop
 |⟨k,n,l⟩=>(k=1→n∈U)∧D7 U l
def D7 (U:List ByteArray):List A0→Prop
 |[]=>True
 |x::l=>vin U x∧D7 U l
end
def dom (s:List A5):List ByteArray:=s.map A5.Fj
mutual
def Co (D:List ByteArray):A0→Prop
 |⟨k,n,l⟩=>(k=1→n∉D)∧D6 D l
def D6 (D:List ByteArray):List A0→Prop
 |[]=>True
 |x::l=>Co D x∧D6 D l
end
theorem NI:∀{s:List A5} {v:ByteArray},v∉dom s→lkB s v=none
 |[],_,_=>rfl
 |b::s,v,h=>by
  simp only[dom,List.map_cons,List.mem_cons,not_or] at h
  rw[lkB,if_neg (fun e=>h.1 e.symm)];exact NI h.2
theorem F5:∀{s:List A5} {v:ByteArray} {t:A0},lkB s v=some t→∃b∈s,b.Fj=v∧b.AM=t
 |[],_,_,h=>by simp[lkB] at h
 |b::s,v,t,h=>by
  rw[lkB] at h
  by_cases e:b.Fj=v
  · rw[if_pos e] at h;cases h;exact⟨b,by simp,e,rfl⟩
  · rw[if_neg e] at h
    obtain⟨c,h1,h2⟩:=F5 h
    exact⟨c,by simp[h1],h2⟩
theorem NH:∀{s:List A5} {v:ByteArray},v∈dom s→∃t,lkB s v=some t
 |[],_,h=>by simp[dom] at h
 |b::s,v,h=>by
  rw[lkB]
  by_cases e:b.Fj=v
  · exact⟨_,if_pos e⟩
  · rw[if_neg e]
    simp only[dom,List.map_cons,List.mem_cons] at h
    exact NH (h.resolve_left (fun q=>e q.symm))
mutual
theorem RT {s:List A5}:∀{t:A0},Co (dom s) t→ap s t=t
 |⟨k,n,l⟩,h=>by
  simp only[Co] at h
  have:(if k=1 then lkB s n else none)=none:=by
   by_cases e:k=1
   · rw[if_pos e];exact NI (h.1 e)
   · rw[if_neg e]
  rw[ap,this,Ju h.2]
theorem Ju {s:List A5}:∀{l:List A0},D6 (dom s) l→aps s l=l
 |[],_=>rfl
 |x::l,h=>by
  simp only[D6] at h
  rw[aps,RT h.1,Ju h.2]
end
structure Idm (U:List ByteArray) (s:List A5):Prop where
  nd:(dom s).Nodup
  du:∀v∈dom s,v∈U
  fr:∀b∈s,Co (dom s) b.AM
  vu:∀b∈s,vin U b.AM
mutual
theorem Fr {D:List ByteArray} {s:List A5} (hd:∀v∈D,v∈dom s) (h:∀b∈s,Co D b.AM):∀t:A0,Co D (ap s t)
 |⟨k,n,l⟩=>by
  rw[ap]
  split
  · rename_i u hu
    split at hu
    · obtain⟨b,h1, -,h3⟩:=F5 hu
      rw[←h3];exact h b h1
    · cases hu
  · rename_i hu
    simp only[Co]
    refine⟨fun e hn=> ?_,NS hd h l⟩
    rw[if_pos e] at hu
    obtain⟨t,ht⟩:=NH (hd n hn)
    rw[ht] at hu;cases hu
theorem NS {D:List ByteArray} {s:List A5} (hd:∀v∈D,v∈dom s) (h:∀b∈s,Co D b.AM):∀l:List A0,D6 D (aps s l)
 |[]=>trivial
 |x::l=>by simp only[aps,D6];exact⟨Fr hd h x,NS hd h l⟩
end
mutual
theorem HR {U:List ByteArray} {s:List A5} (h:∀b∈s,vin U b.AM):∀{t:A0},vin U t→vin U (ap s t)
 |⟨k,n,l⟩,ht=>by
  simp only[vin] at ht
  rw[ap]
  split
  · rename_i u hu
    split at hu
    · obtain⟨b,h1, -,h3⟩:=F5 hu
      rw[←h3];exact h b h1
    · cases hu
  · simp only[vin];exact⟨ht.1,PQ h ht.2⟩
theorem PQ {U:List ByteArray} {s:List A5} (h:∀b∈s,vin U b.AM):∀{l:List A0},D7 U l→D7 U (aps s l)
 |[],_=>trivial
 |x::l,hl=>by simp only[D7] at hl;simp only[aps,D7];exact⟨HR h hl.1,PQ h hl.2⟩
end
def bnd (s:List A5) (v:ByteArray) (t:A0):List A5:=s.map (fun b=>(⟨b.Fj,ap [⟨v,t⟩] b.AM⟩:A5))++[⟨v,t⟩]
theorem Ly (s:List A5) (v:ByteArray) (t:A0):dom (bnd s v t)=dom s++[v]:=by simp[dom,bnd]
mutual
theorem NA {v:ByteArray}:∀{t:A0},occ v t=0→Co [v] t
 |⟨k,n,l⟩,h=>by
  simp only[occ] at h
  simp only[Co,List.mem_singleton]
  refine⟨fun e hn=> ?_,Kb (by omega)⟩
  rw[if_pos ⟨e,hn⟩] at h;omega
theorem Kb {v:ByteArray}:∀{l:List A0},DV v l=0→D6 [v] l
 |[],_=>trivial
 |x::l,h=>by simp only[DV] at h;simp only[D6];exact⟨NA (by omega),Kb (by omega)⟩
end
mutual
theorem JV {D E:List ByteArray}:∀{t:A0},Co D t→Co E t→Co (D++E) t
 |⟨k,n,l⟩,h,g=>by
  simp only[Co] at h g ⊢
  exact⟨fun e hn=>(List.mem_append.1 hn).elim (h.1 e) (g.1 e),Kn h.2 g.2⟩
theorem Kn {D E:List ByteArray}:∀{l:List A0},D6 D l→D6 E l→D6 (D++E) l
 |[],_,_=>trivial
 |x::l,h,g=>by simp only[D6] at h g ⊢;exact⟨JV h.1 g.1,Kn h.2 g.2⟩
end
mutual
theorem NT {D:List ByteArray} {s:List A5} (h:∀b∈s,Co D b.AM):∀{t:A0},Co D t→Co D (ap s t)
 |⟨k,n,l⟩,ht=>by
  simp only[Co] at ht
  rw[ap]
  split
  · rename_i u hu
    split at hu
    · obtain⟨b,h1, -,h3⟩:=F5 hu
      rw[←h3];exact h b h1
    · cases hu
  · simp only[Co];exact⟨ht.1,Ko h ht.2⟩
theorem Ko {D:List ByteArray} {s:List A5} (h:∀b∈s,Co D b.AM):∀{l:List A0},D6 D l→D6 D (aps s l)
 |[],_=>trivial
 |x::l,hl=>by simp only[D6] at hl;simp only[aps,D6];exact⟨NT h hl.1,Ko h hl.2⟩
end
theorem Idm.bnd {U:List ByteArray} {s:List A5} {v:ByteArray} {t:A0} (h:Idm U s) (hv:v∈U) (hn:v∉dom s) (ht:vin U t) (hf:Co (dom s) t) (ho:occ v t=0):Idm U (bnd s v t):=by
  have h1:Co [v] t:=NA ho
  refine⟨?_,fun x hx=> ?_,fun b hb=> ?_,fun b hb=> ?_⟩
  · rw[Ly]
    refine List.nodup_append.2 ⟨h.nd,by simp,fun a ha b hb e=> ?_⟩
    simp only[List.mem_singleton] at hb
    subst hb;subst e;exact hn ha
  · rw[Ly] at hx
    rcases List.mem_append.1 hx with hx|hx
    · exact h.du x hx
    · simp only[List.mem_singleton] at hx;subst hx;exact hv
  · rw[Ly]
    unfold Go.Proofs.YtdooklofebdknaaGreat.bnd at hb
    rcases List.mem_append.1 hb with hb|hb
    · obtain⟨c,hc,rfl⟩:=List.mem_map.1 hb
      refine JV (NT (fun d hd=> ?_) (h.fr c hc)) (Fr (fun x hx=>by simpa[dom] using hx) (fun d hd=> ?_) _)
      · simp only[List.mem_singleton] at hd;subst hd;exact hf
      · simp only[List.mem_singleton] at hd;subst hd;exact h1
    · simp only[List.mem_singleton] at hb;subst hb;exact JV hf h1
  · unfold Go.Proofs.YtdooklofebdknaaGreat.bnd at hb
    rcases List.mem_append.1 hb with hb|hb
    · obtain⟨c,hc,rfl⟩:=List.mem_map.1 hb
      exact HR (fun d hd=>by simp only[List.mem_singleton] at hd;subst hd;exact ht) (h.vu c hc)
    · simp only[List.mem_singleton] at hb;subst hb;exact ht
theorem Bu {α:Type} [DecidableEq α]:∀{l m:List α},l.Nodup→(∀x∈l,x∈m)→l.length≤m.length
 |[],_,_,_=>by simp
 |x::l,m,h,hs=>by
  have h1:=List.nodup_cons.1 h
  have h2:l.length≤(m.erase x).length:=Bu h1.2 (fun y hy=>(List.mem_erase_of_ne (fun e=>h1.1 (by rw[←e];exact hy))).2 (hs y (by simp[hy])))
  have h3:=List.length_erase_of_mem (hs x (by simp))
  have h4:=List.length_pos_of_mem (hs x (by simp))
  simp only[List.length_cons];omega
def unL (f:List A5→A0→A0→Option (Option (List A5))):List A5→List A0→List A0→Option (Option (List A5))
 |s,x::l,y::m=>match f s x y with
  |none=>none
  |some none=>some none
  |some (some s1)=>unL f s1 l m
 |s,_,_=>some (some s)
def big (t:A0):Prop:=4611686018427387904≤AQ t
instance (t:A0):Decidable (big t):=inferInstanceAs (Decidable (4611686018427387904≤AQ t))
def unV (s:List A5) (v:ByteArray) (t:A0):Option (Option (List A5)):=if big t then none else some (if occ v t=0 then some (bnd s v t) else none)
def un (tb:A0→A0→Bool):Nat→List A5→A0→A0→Option (Option (List A5))
 |0,_,_,_=>none
 |n+1,s,a,b=>
  if ap s a=ap s b then some (some s)
  else if tb (ap s a) (ap s b) then some none
  else if (ap s a).AH=1 then unV s (ap s a).A6 (ap s b)
  else if (ap s b).AH=1 then unV s (ap s b).A6 (ap s a)
  else if (ap s a).AH=(ap s b).AH∧(ap s a).A6=(ap s b).A6∧(ap s a).AB.length=(ap s b).AB.length then unL (un tb n) s (ap s a).AB (ap s b).AB
  else some none
theorem Il {f g:List A5→A0→A0→Option (Option (List A5))} (h:∀s a b r,f s a b=some r→g s a b=some r):∀(a b:List A0) (s:List A5) (r:Option (List A5)),unL f s a b=some r→unL g s a b=some r
 |x::l,y::m,s,r,e=>by
  rw[unL] at e ⊢
  cases hf:f s x y with
  |none=>rw[hf] at e;cases e
  |some q=>
    rw[hf] at e;rw[h _ _ _ _ hf]
    cases q with
    |none=>exact e
    |some s1=>exact Il h l m s1 r e
 |[],_,s,r,e=>by simpa[unL] using e
 |_::_,[],s,r,e=>by simpa[unL] using e
theorem PV {tb:A0→A0→Bool}:∀(n:Nat) (s:List A5) (a b:A0) (r:Option (List A5)),un tb n s a b=some r→un tb (n+1) s a b=some r
 |0,_,_,_,_,e=>by simp[un] at e
 |n+1,s,a,b,r,e=>by
  rw[un] at e ⊢
  split
  · rename_i h;rw[if_pos h] at e;exact e
  · rename_i h;rw[if_neg h] at e
    split
    · rename_i h;rw[if_pos h] at e;exact e
    · rename_i h;rw[if_neg h] at e
      split
      · rename_i h;rw[if_pos h] at e;exact e
      · rename_i h;rw[if_neg h] at e
        split
        · rename_i h;rw[if_pos h] at e;exact e
        · rename_i h;rw[if_neg h] at e
          split
          · rename_i h;rw[if_pos h] at e;exact Il (PV n) _ _ _ _ e
          · rename_i h;rw[if_neg h] at e;exact e
theorem aM {tb:A0→A0→Bool} {n m:Nat} (h:n≤m) {s:List A5} {a b:A0} {r:Option (List A5)} (e:un tb n s a b=some r):un tb m s a b=some r:=by
  induction h with
  |refl=>exact e
  |step _ ih=>exact PV _ _ _ _ _ ih
theorem bq {tb:A0→A0→Bool} {n m:Nat} (h:n≤m) {s:List A5} {a b:List A0} {r:Option (List A5)} (e:unL (un tb n) s a b=some r):unL (un tb m) s a b=some r:=Il (fun _ _ _ _ q=>aM h q) _ _ _ _ e
def gB:Nat→Nat
 |0=>60
 |1=>3600
 |2=>12960000
 |n+3=>gB (n+2)*4000
theorem Yw:∀k x t:Nat,x≤gB k→t≤gB k→t≤4000→x*t≤gB (k+1)
 |0,_,_,h1,h2,_=>Nat.mul_le_mul h1 h2
 |1,_,_,h1,h2,_=>Nat.mul_le_mul h1 h2
 |_+2,_,_,h1,_,h3=>Nat.mul_le_mul h1 h3
theorem nN:∀k,k≤5→gB k≤829440000000000000
 |0,_=>by decide
 |1,_=>by decide
 |2,_=>by decide
 |3,_=>by decide
 |4,_=>by decide
 |5,_=>by decide
 |k+6,h=>by omega
def grw (s s1:List A5):Prop:=∀y,AQ (ap s y)≤gB s.length→AQ (ap s1 y)≤gB s1.length
def UnR (U:List ByteArray) (s:List A5):Option (List A5)→Prop
 |none=>True
 |some s1=>Idm U s1∧(s1=s∨s.length<s1.length)∧grw s s1
theorem Hm {D:List ByteArray} {t:A0} (h:Co D t) (e:t.AH=1):t.A6∉D:=by cases t;simp only[Co] at h;exact h.1 e
theorem GL {D:List ByteArray} {t:A0} (h:vin D t) (e:t.AH=1):t.A6∈D:=by cases t;simp only[vin] at h;exact h.1 e
theorem Hn {D:List ByteArray} {t:A0} (h:Co D t):D6 D t.AB:=by cases t;simp only[Co] at h;exact h.2
theorem Eb {D:List ByteArray} {t:A0} (h:vin D t):D7 D t.AB:=by cases t;simp only[vin] at h;exact h.2
theorem BE (t:A0):Ae t.AB<AQ t:=by cases t;simp only[AQ];omega
theorem Wi {s:List A5} {l:List A0} (h:D6 (dom s) l):Ae (aps s l)=Ae l:=by rw[Ju h]
theorem M5 (s:List A5) (v:ByteArray) (t:A0):(bnd s v t).length=s.length+1:=by simp[bnd]
theorem KP (t:A0):0<AQ t:=by cases t;simp only[AQ];omega
theorem Idm.len {U:List ByteArray} {s:List A5} (h:Idm U s):s.length≤U.length:=by
 have:=Bu h.nd h.du
 simpa[dom] using this
theorem Idm.lt {U:List ByteArray} {s:List A5} {v:ByteArray} (h:Idm U s) (hv:v∈U) (hn:v∉dom s):s.length<U.length:=by
 have := Bu (l := v :: dom s) (m := U) (List.nodup_cons.2 ⟨hn, h.nd⟩) (fun x hx => by
  rcases List.mem_cons.1 hx with rfl|hx
  · exact hv
  · exact h.du x hx)
 simp[dom] at this;omega
theorem QW {v:ByteArray} {t:A0} {n:ByteArray}:∀{s:List A5},lkB (bnd s v t) n=match lkB s n with|some u=>some (ap [⟨v,t⟩] u)|none=>if v=n then some t else none
 |[]=>by simp[bnd,lkB]
 |b::s=>by
  have h:=@QW v t n s
  unfold bnd at h ⊢
  simp only[List.map_cons,List.cons_append,lkB]
  by_cases e:b.Fj=n
  · simp[e]
  · simp only[if_neg e];exact h
mutual
theorem Wj (s:List A5) (v:ByteArray) (t:A0):∀y:A0,ap (bnd s v t) y=ap [⟨v,t⟩] (ap s y)
 |⟨k,n,l⟩=>by
  have hl:=RS s v t l
  by_cases hk:k=1
  · subst hk
    simp only[ap,if_true,QW]
    cases h:lkB s n with
    |some u=>simp
    |none=>
      simp only[ap,if_true,lkB]
      by_cases e:v=n
      · simp[e]
      · simp[e,hl]
  · simp only[ap,if_neg hk,hl]
theorem RS (s:List A5) (v:ByteArray) (t:A0):∀l:List A0,aps (bnd s v t) l=aps [⟨v,t⟩] (aps s l)
 |[]=>rfl
 |x::l=>by simp only[aps,Wj s v t x,RS s v t l]
end
mutual
theorem Tt (v:ByteArray) (t:A0):∀y:A0,AQ (ap [⟨v,t⟩] y)≤AQ y*AQ t
 |⟨k,n,l⟩=>by
  have hl:=Pe v t l
  have hp:=KP t
  rw[ap]
  split
  · rename_i u hu
    split at hu
    · simp only[lkB] at hu
      split at hu
      · cases hu
        simp only[AQ,Nat.add_mul,Nat.one_mul];omega
      · cases hu
    · cases hu
  · simp only[AQ,Nat.add_mul,Nat.one_mul];omega
theorem Pe (v:ByteArray) (t:A0):∀l:List A0,Ae (aps [⟨v,t⟩] l)≤Ae l*AQ t
 |[]=>by simp[aps,Ae]
 |x::l=>by
  have h1:=Tt v t x
  have h2:=Pe v t l
  simp only[aps,Ae,Nat.add_mul];omega
end
theorem NP (s:List A5):grw s s:=fun _ h=>h
theorem Sc {s s1 s2:List A5} (h:grw s s1) (g:grw s1 s2):grw s s2:=fun y q=>g y (h y q)
theorem Qq {s:List A5} {v:ByteArray} {t:A0} (h1:AQ t≤gB s.length) (h2:AQ t≤4000):grw s (bnd s v t):=fun y q=>by
  rw[Wj,M5]
  exact Nat.le_trans (Tt v t _) (Yw _ _ _ q h1 h2)
def cF (tb:A0→A0→Bool):Prop:=∀a b,tb a b=false→¬big a→¬big b→AQ a≤4000∧AQ b≤4000
theorem IX {U:List ByteArray} {s:List A5} {v:ByteArray} {x:A0} (h:Idm U s) (hU:U.length≤6) (hv:v∈U) (hn:v∉dom s) (hx:AQ x≤gB s.length):¬big x:=by
  have h1:=h.lt hv hn
  have h2:=nN s.length (by omega)
  unfold big;omega
theorem VT {s:List A5} {l:List A0} {B:Nat} (h:∀x∈l,Co (dom s) x) (hs:Ae l≤B):∀x∈l,AQ (ap s x)≤B:=by
  intro x hx
  rw[RT (h x hx)]
  have:∀{l:List A0},x∈l→AQ x≤Ae l:=by
    intro l
    induction l with
    |nil=>intro h;simp at h
    |cons y l ih=>
      intro h
      simp only[Ae]
      rcases List.mem_cons.1 h with rfl|h
      · omega
      · have:=ih h;omega
  have:=this hx;omega
theorem Hl {D:List ByteArray}:∀{l:List A0},D6 D l→∀x∈l,Co D x
 |[],_,x,hx=>by simp at hx
 |y::l,h,x,hx=>by
  simp only[D6] at h
  rcases List.mem_cons.1 hx with rfl|hx
  · exact h.1
  · exact Hl h.2 x hx
theorem bn (tb:A0→A0→Bool) (ht:cF tb) (U:List ByteArray) (hU:U.length≤6):∀(n m:Nat) (s:List A5) (a b:List A0),Idm U s→U.length - s.length=n→Ae (aps s a)=m→a.length=b.length→D7 U a→D7 U b→(∀x∈a,AQ (ap s x)≤gB s.length)→(∀x∈b,AQ (ap s x)≤gB s.length)→∃h r,unL (un tb h) s a b=some r∧UnR U s r:=by
  intro n
  induction n using Nat.strongRecOn with
  |ind n ihn=>
  intro m
  induction m using Nat.strongRecOn with
  |ind m ihm=>
  intro s a b hs hn hm hl ha hb hza hzb
  match a,b,hl with
  |[],[],_=>exact⟨0,_,rfl,hs,.inl rfl,NP s⟩
  |x::l,y::k,hl=>
    simp only[List.length_cons,Nat.add_right_cancel_iff] at hl
    simp only[D7] at ha hb
    simp only[aps,Ae] at hm
    have hzx:=hza x (by simp);have hzy:=hzb y (by simp)
    have hfx:Co (dom s) (ap s x):=Fr (fun _ h=>h) hs.fr x
    have hfy:Co (dom s) (ap s y):=Fr (fun _ h=>h) hs.fr y
    have hvx:vin U (ap s x):=HR hs.vu ha.1
    have hvy:vin U (ap s y):=HR hs.vu hb.1
    have one:∃h r,un tb h s x y=some r∧UnR U s r:=by
      by_cases e:ap s x=ap s y
      · exact⟨1,some s,by rw[un,if_pos e],hs,.inl rfl,NP s⟩
      cases et:tb (ap s x) (ap s y) with
      |true=>exact⟨1,none,by rw[un,if_neg e,if_pos et],trivial⟩
      |false=>
        have et':¬tb (ap s x) (ap s y)=true:=by simp[et]
        by_cases ex:(ap s x).AH=1
        · have nx:=GL hvx ex;have mx:=Hm hfx ex
          have b1:=IX hs hU nx mx hzx;have b2:=IX hs hU nx mx hzy
          have hq:=ht _ _ et b1 b2
          refine⟨1,_,by rw[un,if_neg e,if_neg et',if_pos ex,unV,if_neg b2],?_⟩
          split
          · rename_i ho
            exact⟨hs.bnd nx mx hvy hfy ho,.inr (by rw[M5];omega),Qq hzy hq.2⟩
          · trivial
        by_cases ey:(ap s y).AH=1
        · have nx:=GL hvy ey;have mx:=Hm hfy ey
          have b1:=IX hs hU nx mx hzx;have b2:=IX hs hU nx mx hzy
          have hq:=ht _ _ et b1 b2
          refine⟨1,_,by rw[un,if_neg e,if_neg et',if_neg ex,if_pos ey,unV,if_neg b1],?_⟩
          split
          · rename_i ho
            exact⟨hs.bnd nx mx hvx hfx ho,.inr (by rw[M5];omega),Qq hzx hq.1⟩
          · trivial
        by_cases eo:(ap s x).AH=(ap s y).AH∧(ap s x).A6=(ap s y).A6∧(ap s x).AB.length=(ap s y).AB.length
        · have h1:=BE (ap s x);have h2:=BE (ap s y)
          obtain⟨h,r,g1,g2⟩:=ihm (Ae (ap s x).AB) (by omega) s (ap s x).AB (ap s y).AB hs hn (Wi (Hn hfx)) eo.2.2 (Eb hvx) (Eb hvy) (VT (Hl (Hn hfx)) (by omega)) (VT (Hl (Hn hfy)) (by omega))
          exact⟨h+1,r,by rw[un,if_neg e,if_neg et',if_neg ex,if_neg ey,if_pos eo];exact g1,g2⟩
        · exact⟨1,none,by rw[un,if_neg e,if_neg et',if_neg ex,if_neg ey,if_neg eo],trivial⟩
    obtain⟨h,r,g1,g2⟩:=one
    cases r with
    |none=>exact⟨h,none,by rw[unL,g1],trivial⟩
    |some s1=>
      obtain⟨hs1,g3,gg⟩:=g2
      have fin:∀h2 r,unL (un tb h2) s1 l k=some r→∃h3,unL (un tb h3) s (x::l) (y::k)=some r:=fun h2 r q=>by
        refine⟨max h h2,?_⟩
        rw[unL,aM (Nat.le_max_left h h2) g1]
        exact bq (Nat.le_max_right h h2) q
      have hza1:∀z∈l,AQ (ap s1 z)≤gB s1.length:=fun z hz=>gg z (hza z (by simp[hz]))
      have hzb1:∀z∈k,AQ (ap s1 z)≤gB s1.length:=fun z hz=>gg z (hzb z (by simp[hz]))
      rcases g3 with rfl|g3
      · have:=KP (ap s1 x)
        obtain⟨h2,r,k1,k2⟩:=ihm (Ae (aps s1 l)) (by omega) s1 l k hs1 hn rfl hl ha.2 hb.2 hza1 hzb1
        obtain⟨h3,q⟩:=fin h2 r k1
        exact⟨h3,r,q,k2⟩
      · have hl1:=hs1.len
        obtain⟨h2,r,k1,k2⟩:=ihn (U.length - s1.length) (by omega) _ s1 l k hs1 rfl rfl hl ha.2 hb.2 hza1 hzb1
        obtain⟨h3,q⟩:=fin h2 r k1
        refine⟨h3,r,q,?_⟩
        cases r with
        |none=>trivial
        |some s2=>
          refine⟨k2.1,.inr ?_,Sc gg k2.2.2⟩
          rcases k2.2.1 with rfl|q
          · exact g3
          · omega
theorem Idm.nil (U:List ByteArray):Idm U []:=⟨by simp[dom],by simp[dom],by simp,by simp⟩
mutual
theorem PD:∀t:A0,ap [] t=t
 |⟨k,n,l⟩=>by simp[ap,lkB,RR l]
theorem RR:∀l:List A0,aps [] l=l
 |[]=>rfl
 |x::l=>by simp only[aps,PD x,RR l]
end
def uOk (a b:A0):Prop:=∃U:List ByteArray,U.length≤6∧vin U a∧vin U b∧AQ a≤60∧AQ b≤60
theorem TT (tb:A0→A0→Bool) (ht:cF tb) {a b:A0} (h:uOk a b):∃n r,unL (un tb n) [] [a] [b]=some r:=by
  obtain⟨U,hU,ha,hb,hza,hzb⟩:=h
  obtain⟨h,r,h1, -⟩:=bn tb ht U hU _ _ [] [a] [b] (Idm.nil U) rfl rfl rfl ⟨ha,trivial⟩ ⟨hb,trivial⟩ (by simp[PD,gB,hza]) (by simp[PD,gB,hzb])
  exact⟨h,r,h1⟩
mutual
def mtT:A0→A0→List A5→Option (List A5)
 |⟨k,n,l⟩,t,s=>
  if k = 1 then (match lkB s n with
   |some u=>if u=t then some s else none
   |none=>some (s++[⟨n,t⟩]))
  else if k=t.AH∧n=t.A6∧l.length=t.AB.length then DI l t.AB s else none
def DI:List A0→List A0→List A5→Option (List A5)
 |x::l,y::m,s=>match mtT x y s with
  |some s1=>DI l m s1
  |none=>none
 |_,_,s=>some s
end
def mtc (p t:A0):Option (List A5):=mtT p t []
def mtB (p t:A0):Bool:=(mtc p t).isSome
def Gp (a b:A0):Bool:=mtB b a && !mtB a b
def Ak (w:A1) (s:ByteArray):List ByteArray:=(trR w s).1.Ao
def sup (w:A1):Nat→List ByteArray→List ByteArray→Option (List ByteArray)
 |_,[],out=>some out
 |0,_::_,_=>none
 |n+1,s::l,out=>if B6 out s then sup w n l out else match sup w n (Ak w s) (out++[s]) with
  |some o=>sup w n l o
  |none=>none
theorem Ge {w:A1}:∀(n:Nat) (l out r:List ByteArray),sup w n l out=some r→sup w (n+1) l out=some r
 |n,[],out,r,h=>by cases n<;>simpa[sup] using h
 |0,_::_,_,_,h=>by simp[sup] at h
 |n+1,s::l,out,r,h=>by
  rw[sup] at h ⊢
  by_cases e:B6 out s=true
  · rw[if_pos e] at h ⊢;exact Ge n l out r h
  · rw[if_neg e] at h ⊢
    cases h1:sup w n (Ak w s) (out++[s]) with
    |none=>rw[h1] at h;cases h
    |some o=>
      rw[h1] at h;rw[Ge n _ _ _ h1]
      exact Ge n l o r h
theorem LJ {w:A1} {n m:Nat} (h:n≤m) {l out r:List ByteArray} (e:sup w n l out=some r):sup w m l out=some r:=by
  induction h with
  |refl=>exact e
  |step _ ih=>exact Ge _ _ _ _ ih
def U5 (w:A1):List ByteArray:=w.A2.flatMap fun p=>p.Ai.flatMap AS.Ao
theorem Gd {w:A1} {s t:ByteArray} (h:t∈Ak w s):t∈U5 w:=by
  unfold Ak trR at h
  cases hq:inP A8.Ai AS.A6 w s with
  |none=>rw[hq] at h;simp[DW,zTr] at h
  |some x=>
    obtain⟨x,i⟩:=x
    rw[hq] at h
    simp only[DW] at h
    obtain⟨⟨p,hp,hx⟩, -⟩:=Lh hq
    exact List.mem_flatMap.2 ⟨p,hp,List.mem_flatMap.2 ⟨x,hx,h⟩⟩
theorem U3 (w:A1) (U:List ByteArray) (hU:∀s t,t∈Ak w s→t∈U):∀(n m:Nat) (l out:List ByteArray),U.length - out.length=n→l.length=m→out.Nodup→(∀s∈out,s∈U)→(∀s∈l,s∈U)→∃h r,sup w h l out=some r∧r.Nodup∧(∀s∈r,s∈U)∧out.length≤r.length:=by
  intro n
  induction n using Nat.strongRecOn with
  |ind n ihn=>
  intro m
  induction m using Nat.strongRecOn with
  |ind m ihm=>
  intro l out hn hm hd ho hl
  match l with
  |[]=>exact⟨0,out,rfl,hd,ho,Nat.le_refl _⟩
  |s::l=>
    simp only[List.length_cons] at hm
    have hl2:∀t∈l,t∈U:=fun t ht=>hl t (by simp[ht])
    by_cases e:B6 out s=true
    · obtain⟨h,r,h1,h2⟩:=ihm l.length (by omega) l out hn rfl hd ho hl2
      exact⟨h+1,r,by rw[sup,if_pos e];exact h1,h2⟩
    · have hs:s∉out:=fun q=>e (List.any_eq_true.2 ⟨s,q,by simp⟩)
      have hd1:(out++[s]).Nodup:=List.nodup_append.2 ⟨hd,by simp,fun a ha b hb q=>by simp only[List.mem_singleton] at hb;subst hb;subst q;exact hs ha⟩
      have ho1:∀t∈out++[s],t∈U:=fun t ht=>by
        rcases List.mem_append.1 ht with q|q
        · exact ho t q
        · simp only[List.mem_singleton] at q;subst q;exact hl t (by simp)
      have hlen:=Bu hd1 ho1
      simp only[List.length_append,List.length_singleton] at hlen
      obtain⟨h,o,h1,h2,h3,h4⟩:=ihn (U.length - (out++[s]).length) (by simp;omega) _ (Ak w s) (out++[s]) rfl rfl hd1 ho1 (fun t ht=>hU s t ht)
      simp only[List.length_append,List.length_singleton] at h4
      have hlo:=Bu h2 h3
      obtain⟨h',r,k1,k2,k3,k4⟩:=ihn (U.length - o.length) (by omega) _ l o rfl rfl h2 h3 hl2
      refine⟨max h h'+1,r,?_,k2,k3,by omega⟩
      rw[sup,if_neg e,LJ (Nat.le_max_left h h') h1]
      exact LJ (Nat.le_max_right h h') k1
theorem KV (w:A1) (s:ByteArray):∃h r,sup w h (Ak w s) []=some r:=by
  obtain⟨h,r,h1, -⟩:=U3 w (U5 w) (fun s t ht=>Gd ht) _ _ (Ak w s) [] rfl rfl (by simp) (by simp) (fun t ht=>Gd ht)
  exact⟨h,r,h1⟩
noncomputable def Cb (w:A1) (s:ByteArray):List ByteArray:=Classical.choose (Classical.choose_spec (KV w s))
theorem MG (w:A1) (s:ByteArray):∃h,sup w h (Ak w s) []=some (Cb w s):=⟨_,Classical.choose_spec (Classical.choose_spec (KV w s))⟩
def pth (w:A1) (to:ByteArray):Nat→ByteArray→Option (List Nat)
 |n,s=>if s=to then some [] else match n with
  |0=>none
  |n+1=>fs (fun i t=>(pth w to n t).map (i:: ·)) 0 (Ak w s)
def inR (w:A1) (o:A3):Prop:=∃(i k:Nat) (h:i<w.A2.length),k<w.A2[i].AO.length∧o=⟨(i:Int),(k:Int)⟩
def Am (w:A1) (o:A3):AJ:=((w.A2[o.BI.toNat]?).bind fun p=>p.AO[o.fAt.toNat]?).getD zIn
theorem DZ {w:A1} {i k:Nat} (h:i<w.A2.length) (hk:k<w.A2[i].AO.length):Am w ⟨(i:Int),(k:Int)⟩=w.A2[i].AO[k]:=by
 unfold Am
 simp only[Int.toNat_natCast,List.getElem?_eq_getElem h,Option.bind_some,List.getElem?_eq_getElem hk,Option.getD_some]
theorem C9 {w:A1} {o:A3} (h:inR w o):(Am w o).sz≤w.sz:=by
 obtain⟨i,k,hi,hk,rfl⟩:=h
 rw[DZ hi hk]
 have h1:=Ah AJ.sz (gm hk)
 have h2:=Ah A8.sz (gm hi)
 have h3:=(w.A2[i]).sz_eq;have h4:=w.sz_eq
 unfold szs at h3 h4;omega
def rfK (i k:Nat):List A3:=(List.range k).map fun (j:Nat)=>⟨(i:Int),(j:Int)⟩
theorem J3 (i:Nat):rfK i 0=[]:=rfl
theorem Ob (i k:Nat):rfK i (k+1)=rfK i k++[⟨(i:Int),(k:Int)⟩]:=by unfold rfK;rw[List.range_succ,List.map_append];rfl
theorem Gi (i k:Nat):(rfK i k).length=k:=by simp[rfK]
def rfP (w:A1) (i:Nat):List A3:=match w.A2[i]? with
 |some p=>rfK i p.AO.length
 |none=>[]
theorem Ez {w:A1} {i:Nat} (h:i<w.A2.length):rfP w i=rfK i w.A2[i].AO.length:=by unfold rfP;rw[List.getElem?_eq_getElem h]
def alK (w:A1) (k:Nat):List A3:=(List.range k).flatMap (rfP w)
theorem Jz (w:A1):alK w 0=[]:=rfl
theorem K1 (w:A1) (k:Nat):alK w (k+1)=alK w k++rfP w k:=by unfold alK;rw[List.range_succ,List.flatMap_append];simp
def BD (w:A1):List A3:=alK w w.A2.length
theorem MH {w:A1} {k:Nat} (h:k=w.A2.length):alK w k=BD w:=by rw[h];rfl
theorem Wo (w:A1):∀k,k≤w.A2.length→(alK w k).length≤szL A8.sz (w.A2.take k)
 |0,_=>Nat.zero_le _
 |k+1,h=>by
  have h1:=Wo w k (by omega)
  have hk:k<w.A2.length:=by omega
  rw[K1,Ez hk,List.length_append,Gi,Y' hk,Gb]
  have h2:=(w.A2[k]).sz_eq
  unfold szs at h2
  simp only[szL];omega
theorem K0 (w:A1) {k:Nat} (h:k≤w.A2.length):(alK w k).length≤w.sz:=by
 have h1:=Wo w k h
 have h2:=E5 A8.sz w.A2 k
 have h3:=w.sz_eq
 unfold szs at h3;omega
theorem PG {w:A1} {k:Nat} (h:k<w.A2.length):(alK w k).length+w.A2[k].AO.length≤w.sz:=by
 have:=K0 w (k:=k+1) h
 rw[K1,Ez h,List.length_append,Gi] at this;exact this
theorem Dh (w:A1):(BD w).length≤w.sz:=K0 w (Nat.le_refl _)
theorem Dw {w:A1} {o:A3} (h:o∈BD w):inR w o:=by
 unfold BD alK at h
 obtain⟨i,hi,h⟩:=List.mem_flatMap.1 h
 have hi:=List.mem_range.1 hi
 rw[Ez hi] at h
 obtain⟨k,hk,rfl⟩:=List.mem_map.1 h
 exact⟨i,k,hi,List.mem_range.1 hk,rfl⟩
def Fh (w:A1) (t:A0):Int:=if t.AH=2∧¬Cp t.A6=true∧(daR w t.A6).2.2=true then ((daR w t.A6).2.1:Int) else -1
def Fa (w:A1) (o:A3):Bool:=((trR w (Am w o).AK).2.2 && decide (((trR w (Am w o).AK).2.1:Int)=o.BI))||decide (Fh w (Am w o).Ar=o.BI)
