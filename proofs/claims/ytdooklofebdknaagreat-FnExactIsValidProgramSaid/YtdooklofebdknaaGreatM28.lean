/- Part 28. No condition. -/
import Derived.Test.YtdooklofebdknaaGreatM20
import Derived.Test.YtdooklofebdknaaGreatM26
namespace Go.Proofs.YtdooklofebdknaaGreat
open Go.RowKit Tryz
set_option linter.unusedVariables false
set_option maxRecDepth 10000
set_option linter.unusedSimpArgs false
set_option maxHeartbeats 4000000
def Vz (w:A1) (i:Nat) (p:A8):Bool:=decide (pIx w p.A6=(i:Int)) && p.BZ.all fun d=>Ay (pIx w d) 0 ((i:Int) - 1)
def ZK (w:A1) (i:Nat) (p:A8):Bool:=sub p.BZ ((w.A2.take i).map A8.A6)
def bad {α:Type} (p:Nat→α→Bool) (i:Nat) (x:α):Option Unit:=if p i x then none else some ()
def Nw (ok:A8→Bool) (w:A1):Bool:=(fs (bad fun i p=>ok p && Vz w i p) 0 w.A2).isNone && decide (w.A2.length≤5)
def I7 (ok:A8→Bool) (w:A1):Bool:=(fs (bad fun i p=>ok p && ZK w i p) 0 w.A2).isNone && (decide (w.A2.length≤5) && dst (w.A2.map A8.A6))
theorem OD {α:Type} {p:Nat→α→Bool} {i:Nat} {x:α}:bad p i x=none↔p i x=true:=by unfold bad;cases p i x<;>simp
theorem Ou {α:Type} {p:Nat→α→Bool} {l:List α}:(fs (bad p) 0 l).isNone=true↔∀k (h:k<l.length),p k l[k]=true:=by
 constructor
 ·intro h k hk
  have key:∀(l:List α) (i:Nat),(fs (bad p) i l).isNone=true→∀k (h:k<l.length),p (i+k) l[k]=true:=by
   intro l
   induction l with
   |nil=>intro _ _ k hk;simp at hk
   |cons x l ih=>
    intro i h k hk
    rw[fs] at h
    cases hx:bad p i x with
    |some y=>rw[hx] at h;simp at h
    |none=>
     rw[hx] at h
     cases k with
     |zero=>simpa using OD.1 hx
     |succ k=>have:=ih (i+1) h k (by simpa using hk);rw[show i+1+k=i+(k+1) by omega] at this;simpa using this
  have:=key l 0 h k hk
  simpa using this
 ·intro h
  rw[Ic (fun k hk=>by rw[Nat.zero_add];exact OD.2 (h k hk))];rfl
theorem LR {w:A1} {s:ByteArray} {i:Nat}:pIx w s=(i:Int)↔∃h:i<w.A2.length,w.A2[i].A6=s∧∀j (hj:j<i),¬(w.A2[j]'(by omega)).A6=s:=by
 unfold pIx
 cases h:w.A2.findIdx? (fun q=>decide (q.A6=s)) with
 |none=>
  simp only
  constructor
  ·intro q;omega
  ·rintro ⟨h1,h2, -⟩
   rw[List.findIdx?_eq_none_iff] at h
   have:=h _ (gm h1)
   simp[h2] at this
 |some j=>
  have h':=h
  rw[List.findIdx?_eq_some_iff_getElem] at h'
  obtain⟨h1,h2,h3⟩:=h'
  simp only
  constructor
  ·intro q
   have:j=i:=by omega
   subst this
   exact⟨h1,by simpa using h2,fun k hk=>by simpa using h3 k hk⟩
  ·rintro ⟨g1,g2,g3⟩
   have:j=i:=by
    rcases Nat.lt_trichotomy j i with q|q|q
    ·exact absurd (by simpa using h2) (g3 j q)
    ·exact q
    ·have:=h3 i q;simp[g2] at this
   omega
theorem dJ {w:A1} {s:ByteArray} {i:Nat} (hi:i≤w.A2.length):Ay (pIx w s) 0 ((i:Int) - 1)=true↔s∈(w.A2.take i).map A8.A6:=by
 unfold Ay
 simp only[Bool.and_eq_true,decide_eq_true_eq]
 constructor
 ·rintro ⟨h1,h2⟩
  obtain⟨n,hn⟩:=Int.eq_ofNat_of_zero_le h1
  obtain⟨h3,h4, -⟩:=LR.1 hn
  refine List.mem_map.2 ⟨w.A2[n],?_,h4⟩
  exact List.mem_take_iff_getElem.2 ⟨n,by omega,rfl⟩
 ·intro h
  obtain⟨p,hp,rfl⟩:=List.mem_map.1 h
  obtain⟨k,hk,rfl⟩:=List.mem_take_iff_getElem.1 hp
  have hkl:k<w.A2.length:=by omega
  -- the first of that name
  have:∃j,j≤k∧pIx w w.A2[k].A6=(j:Int):=by
   cases h:w.A2.findIdx? (fun q=>decide (q.A6=w.A2[k].A6)) with
   |none=>
    rw[List.findIdx?_eq_none_iff] at h
    have:=h _ (gm hkl)
    simp at this
   |some j=>
    refine⟨j,?_,by unfold pIx;rw[h]⟩
    rw[List.findIdx?_eq_some_iff_getElem] at h
    obtain⟨h1,h2,h3⟩:=h
    rcases Nat.lt_or_ge k j with q|q
    ·have:=h3 k q;simp at this
    ·exact q
  obtain⟨j,h1,h2⟩:=this
  rw[h2];omega
theorem Lx (l:List ByteArray):dst l=true↔∀i (h:i<l.length),∀j (hj:j<i),¬l[j]=l[i]:=by
 unfold dst KG
 simp only[List.all_eq_true,List.mem_range]
 constructor
 ·intro h i hi j hj e
  have:=h i hi
  unfold FE at this
  simp only[Bool.not_eq_true',List.getD_eq_getElem?_getD,List.getElem?_eq_getElem hi,Option.getD_some] at this
  have h2:B6 (l.take i) l[i]=true:=List.any_eq_true.2 ⟨l[j],List.mem_take_iff_getElem.2 ⟨j,by omega,rfl⟩,by simpa using e⟩
  rw[this] at h2;cases h2
 ·intro h i hi
  unfold FE
  simp only[Bool.not_eq_true',List.getD_eq_getElem?_getD,List.getElem?_eq_getElem hi,Option.getD_some]
  rw[Bool.eq_false_iff]
  intro q
  obtain⟨x,hx,e⟩:=List.any_eq_true.1 q
  obtain⟨j,hj,rfl⟩:=List.mem_take_iff_getElem.1 hx
  exact h i hi j (by omega) (by simpa using e)
theorem ZJ (ok:A8→Bool) (w:A1):Nw ok w=I7 ok w:=by
 have hsub:∀i,i<w.A2.length→∀p:A8,(p.BZ.all fun d=>Ay (pIx w d) 0 ((i:Int) - 1))=ZK w i p:=fun i hi p=>by
  have e:(fun d=>Ay (pIx w d) 0 ((i:Int) - 1))=fun d=>B6 ((w.A2.take i).map A8.A6) d:=by
   funext d
   rw[Bool.eq_iff_iff,dJ (by omega)]
   constructor
   ·intro q;exact List.any_eq_true.2 ⟨d,q,by simp⟩
   ·intro q
    obtain⟨x,hx,e⟩:=List.any_eq_true.1 q
    have:x=d:=by simpa using e
    subst this;exact hx
  rw[e]
  unfold ZK sub
  rw[List.all_eq_not_any_not]
 rw[Bool.eq_iff_iff]
 unfold Nw I7
 simp only[Bool.and_eq_true,Ou]
 constructor
 ·rintro ⟨h1,h2⟩
  refine⟨fun k hk=> ?_,h2,(Lx _).2 fun i hi j hj e=> ?_⟩
  ·have:=h1 k hk
   unfold Vz at this
   simp only[Bool.and_eq_true] at this
   exact⟨this.1,by rw[←hsub k hk];exact this.2.2⟩
  ·simp only[List.length_map] at hi
   have:=h1 i hi
   unfold Vz at this
   simp only[Bool.and_eq_true,decide_eq_true_eq] at this
   obtain⟨g4, -,h4⟩:=LR.1 this.2.1
   simp only[List.getElem_map] at e
   exact h4 j hj e
 ·rintro ⟨h1,h2,h3⟩
  refine⟨fun k hk=> ?_,h2⟩
  have:=h1 k hk
  unfold Vz
  simp only[Bool.and_eq_true,decide_eq_true_eq]
  refine⟨this.1,LR.2 ⟨hk,rfl,fun j hj=> ?_⟩,by rw[hsub k hk];exact this.2⟩
  have:=(Lx _).1 h3 k (by simpa using hk) j hj
  simpa using this

theorem Uh (x:A8) (s:ByteArray) (lv k:Nat) (h:HP) (hcap:hpg h lv k=some (.d (.lf (.string s)))):CS cx.P 190 [.d ((x).dd false),.pt lv k []] h (.d (.lf (.bool (decide (x.A6=s))))) h:=by
 have hc2:=Df hcap
 refine Ze func190 rfl 8 ?_
 apply Zr;intros
 iterate 2 (refine Zo ?_ (by simp[hc2]<;>omega);simp[hc2])
 exact Zx
 apply Zr;intros
 iterate 5 (refine Zo ?_ (by simp[hc2]<;>omega);simp[hc2])
 exact Zx
 refine W.ret (Zq ?_)
 simp[f190]
theorem dy (x:A1) (s:ByteArray) (hz:x.sz≤134217728) (h:HP):CS cx.P 116 [.d ((x).dd false),.d (.lf (.string s))] h (.d (.lf (.int .i64 (pIx x s)))) h:=by
 have hz2:=x.sz_eq;unfold szs at hz2
 have hpi:CR x.A2 (fun q=>decide (q.A6=s))=pIx x s:=rfl
 refine Ze func116 rfl 9 ?_
 apply Zr;intros
 iterate 3 (refine Zo ?_;simp)
 exact Zx
 apply Zr;intros
 iterate 3 (refine Zo ?_;simp)
 refine Zl [] rfl func189 (G3 x.A2 (by omega) 190 f190 _ ⟨func190,rfl,rfl⟩ (fun q=>decide (q.A6=s)) 3 (.lf (.string s)) 0 (fun y hy lv h hc=>Uh y s lv 3 h hc) _ (by simp)) ?_;simp
 refine Zo ?_;simp
 exact Zx
 refine W.ret (Zq ?_)
 simp[f116,hpi]
def Ej (f:Nat→Bool) (n:Nat):List DD:=(List.range n).map fun j=> .lf (.bool (f j))
theorem J2 {f:Nat→Bool} {n j:Nat} (h:j<n):(Ej f n)[j]? =some (.lf (.bool (f j))):=by unfold Ej;simp[h]
theorem UF (f:Nat→Bool) (n:Nat):DD.shs (Ej f n)=List.replicate n .one:=by unfold Ej;rw[BM (s:=.one) (fun _=>rfl)];simp
theorem TK (f:Nat→Bool) (n:Nat):DD.vws (Ej f n)=Ej f n:=B5 (fun _=>rfl) _
theorem UR (f:Nat→Bool) (n:Nat):(Ej f n).length=n:=by unfold Ej;simp
attribute [simp] UF TK UR
theorem N2 {f g:Nat→Bool} {n j:Nat} (h:∀i,g i=(f i||decide (i=j))):(Ej f n).set j (.lf (.bool true))=Ej g n:=by
 unfold Ej
 refine List.ext_getElem? fun i=> ?_
 rw[List.getElem?_set]
 simp only[List.getElem?_map,List.length_map,List.length_range]
 by_cases hij:j=i
 ·subst hij
  by_cases hj:j<n
  ·simp[hj,h]
  ·simp[hj]
 ·have e:g i=f i:=by rw[h];simp[Ne.symm hij]
  by_cases hi:i<n
  ·simp[hij,e,hi]
  ·simp[hij,hi]
theorem Y6 {f:Nat→Bool} {n j:Nat} (h:j<(Ej f n).length):(Ej f n)[j]=.lf (.bool (f j)):=by rw[List.getElem_eq_iff];exact J2 (by simpa using h)
theorem UG (n:Nat) (v:Value):DD.shs (List.replicate n (.lf v))=List.replicate n .one:=by rw[DD.shs_eq,List.map_replicate];rfl
attribute [simp] Y6 UG
theorem UQ (n j:Nat):(List.replicate n (DD.lf (.bool false))).set j (.lf (.bool true))=Ej (fun i=>decide (i=j)) n:=by
 have e:List.replicate n (DD.lf (.bool false))=Ej (fun _=>false) n:=by
  unfold Ej
  refine List.ext_getElem? fun i=> ?_
  simp only[List.getElem?_replicate,List.getElem?_map]
  by_cases hi:i<n<;>simp[hi]
 rw[e];exact N2 fun i=>by simp
def Gt (x:A1) (q:Nat) (s:ByteArray):Bool:=decide (0≤pIx x s) && decide (pIx x s<(q:Int))
def snD (x:A1) (f:Nat→Bool) (L:List ByteArray) (q d:Nat):Nat→Bool:=fun j=>f j||(L.take d).any fun s=>Gt x q s && decide (pIx x s=(j:Int))
theorem UE (x:A1) (f:Nat→Bool) (L:List ByteArray) (q:Nat):snD x f L q 0=f:=by funext j;simp[snD]
theorem cO {x:A1} {f:Nat→Bool} {L:List ByteArray} {q d:Nat} (h:d<L.length) (hh:Gt x q L[d]=false):snD x f L q (d+1)=snD x f L q d:=by
 funext j;unfold snD;rw[Y' h,List.any_append];simp[hh]
theorem Xq {x:A1} {f:Nat→Bool} {L:List ByteArray} {q d j:Nat} (h:d<L.length) (hh:Gt x q L[d]=true) (hj:pIx x L[d]=(j:Int)) (n:Nat):(Ej (snD x f L q d) n).set j (.lf (.bool true))=Ej (snD x f L q (d+1)) n:=
 N2 fun i=>by
  unfold snD;rw[Y' h,List.any_append]
  simp only[List.any_cons,List.any_nil,Bool.or_false,hh,Bool.true_and,hj,Bool.or_assoc]
  congr 2
  by_cases hi:j=i
  ·simp[hi]
  ·simp[hi,Ne.symm hi]<;>omega
def sn (x:A1) (n:Nat):Nat→Nat→Bool
 |0=>fun j=>decide (j=n)
 |r+1=>if sn x n r (n - r)=true then snD x (sn x n r) (Dl x (n - r)) (n - r) (Dl x (n - r)).length else sn x n r
theorem Xj (x:A1) (n:Nat):sn x n 0=fun j=>decide (j=n):=rfl
def tI (n k:Nat):Int:=(n:Int) - k
theorem XN (n:Nat):tI n 0=n:=by unfold tI;simp
def vf (x:A1) (n k:Nat):List Nat:=(List.range k).filter (sn x n (n+1))
theorem X1 (x:A1) (n:Nat):vf x n 0=[]:=rfl
theorem ba (x:A1) (n k:Nat):(vf x n k).length≤k:=by have:=List.length_filter_le (sn x n (n+1)) (List.range k);simpa[vf] using this
theorem bY {x:A1} {n k:Nat} (h:sn x n (n+1) k=true):(vf x n k).map dN++[.lf (.int .i64 (k:Int))]=(vf x n (k+1)).map dN:=by
 unfold vf;rw[List.range_succ,List.filter_append,List.map_append];simp[h]
theorem gA {x:A1} {n k:Nat} (h:sn x n (n+1) k=false):vf x n (k+1)=vf x n k:=by
 unfold vf;rw[List.range_succ,List.filter_append];simp[h]
theorem Xm {x:A1} {n r j:Nat} (h:sn x n r j=true):sn x n (r+1) j=true:=by
 unfold sn
 split
 ·unfold snD;simp[h]
 ·exact h
theorem Mt {x:A1} {n r j:Nat} (h:sn x n r j=true):∀d,sn x n (r+d) j=true
 |0=>h
 |d+1=>Xm (Mt h d)
theorem OY {x:A1} {f:Nat→Bool} {L:List ByteArray} {q j:Nat}:snD x f L q L.length j=true↔f j=true∨∃s∈L,Gt x q s=true∧pIx x s=(j:Int):=by
 unfold snD;rw[List.take_length];simp
theorem LM {x:A1} {n:Nat}:∀(r j:Nat),r≤n+1→sn x n r j=true→j=n∨∃r',r'<r∧sn x n r' (n - r')=true∧∃s∈Dl x (n - r'),Gt x (n - r') s=true∧pIx x s=(j:Int)
 |0,j,_,h=> .inl (by simpa[sn] using h)
 |r+1,j,hr,h=>by
  unfold sn at h
  split at h
  ·rename_i hq
   rcases OY.1 h with h1|⟨s,h1,h2,h3⟩
   ·rcases LM r j (by omega) h1 with e|⟨r',e,e2⟩
    ·exact .inl e
    ·exact .inr ⟨r',by omega,e2⟩
   ·exact .inr ⟨r,by omega,hq,s,h1,h2,h3⟩
  ·rcases LM r j (by omega) h with e|⟨r',e,e2⟩
   ·exact .inl e
   ·exact .inr ⟨r',by omega,e2⟩
theorem UD {x:A1} {n j:Nat} (hj:j≤n) (h:sn x n (n+1) j=true):sn x n (n - j) j=true:=by
 rcases LM (n+1) j (Nat.le_refl _) h with e|⟨r',h1,h2,s,h3,h4,h5⟩
 ·subst e;simp[sn]
 ·have hlt:j<n - r':=by
   unfold Gt at h4
   simp at h4
   omega
  have h6:sn x n (r'+1) j=true:=by
   unfold sn
   rw[if_pos h2]
   exact OY.2 (.inr ⟨s,h3,h4,h5⟩)
  have:=Mt h6 (n - j - (r'+1))
  rwa [show r'+1+(n - j - (r'+1))=n - j by omega] at this
theorem Xp {x:A1} {n p j:Nat} (hp:p≤n) (h:sn x n (n+1) p=true) {s:ByteArray} (hs:s∈Dl x p) (hh:Gt x p s=true) (hj:pIx x s=(j:Int)):sn x n (n+1) j=true:=by
 have h1:=UD hp h
 have h2:sn x n (n - p+1) j=true:=by
  unfold sn
  have e:n - (n - p)=p:=by omega
  rw[e,if_pos h1]
  exact OY.2 (.inr ⟨s,hs,hh,hj⟩)
 have:=Mt h2 p
 rwa [show n - p+1+p=n+1 by omega] at this
def inV (x:A1) (p j:Nat):Prop:=j∈(Ch x (p+1)).getD p []
theorem EK {x:A1} {p j:Nat}:inV x p j↔j=p∨(j<p∧∃s∈Dl x p,∃q:Nat,pIx x s=(q:Int)∧q<p∧inV x q j):=by
 unfold inV
 rw[List.getD_eq_getElem?_getD,D9 x (Nat.lt_succ_self p)]
 simp only[Option.getD_some,List.mem_append,List.mem_singleton]
 unfold Ea
 rw[List.mem_filter,List.mem_range,List.any_eq_true]
 have key:∀s,hit x (Ch x p) p j s=true↔∃q:Nat,pIx x s=(q:Int)∧q<p∧j∈(Ch x (q+1)).getD q []:=by
  intro s
  unfold hit F7
  constructor
  ·intro h
   simp only[Bool.and_eq_true,decide_eq_true_eq] at h
   obtain⟨⟨h1,h2⟩,h3⟩:=h
   have hq:(pIx x s).toNat<p:=by omega
   refine⟨(pIx x s).toNat,by omega,hq,?_⟩
   rw[List.getD_eq_getElem?_getD,D9 x hq] at h3
   rw[List.getD_eq_getElem?_getD,D9 x (Nat.lt_succ_self _)]
   exact h3
  ·rintro ⟨q,h1,h2,h3⟩
   rw[h1]
   simp only[Bool.and_eq_true,decide_eq_true_eq,Int.toNat_natCast]
   refine⟨⟨by omega,by omega⟩,?_⟩
   rw[List.getD_eq_getElem?_getD,D9 x h2]
   rw[List.getD_eq_getElem?_getD,D9 x (Nat.lt_succ_self _)] at h3
   exact h3
 constructor
 ·rintro (⟨h1,s,h2,h3⟩|h)
  ·exact .inr ⟨h1,s,h2,(key s).1 h3⟩
  ·exact .inl h
 ·rintro (h|⟨h1,s,h2,h3⟩)
  ·exact .inr h
  ·exact .inl ⟨h1,s,h2,(key s).2 h3⟩
theorem dc {x:A1} {p j:Nat} (h:inV x p j):j≤p:=by
 rcases EK.1 h with e|⟨e, -⟩<;>omega
theorem VD {x:A1}:∀(p q j:Nat),inV x p q→∀s∈Dl x q,pIx x s=(j:Int)→j<q→inV x p j:=by
 intro p
 induction p using Nat.strongRecOn with
 |ind p ih=>
  intro q j h s hs hj hlt
  rcases EK.1 h with e|⟨h1,t,h2,r,h3,h4,h5⟩
  ·subst e
   exact EK.2 (.inr ⟨hlt,s,hs,j,hj,hlt,EK.2 (.inl rfl)⟩)
  ·have h6:=ih r h4 q j h5 s hs hj hlt
   exact EK.2 (.inr ⟨by have:=dc h6;omega,t,h2,r,h3,h4,h6⟩)
theorem Rz {x:A1} {n:Nat}:∀(p j:Nat),p≤n→sn x n (n+1) p=true→inV x p j→sn x n (n+1) j=true:=by
 intro p
 induction p using Nat.strongRecOn with
 |ind p ih=>
  intro j hp h hv
  rcases EK.1 hv with e|⟨h1,s,h2,q,h3,h4,h5⟩
  ·subst e;exact h
  ·have h6:sn x n (n+1) q=true:=Xp hp h h2 (by unfold Gt;rw[h3];simp;omega) h3
   exact ih q h4 j (by omega) h6 h5
theorem Kk {x:A1} {n:Nat}:∀(m j:Nat),n - j≤m→j≤n→sn x n (n+1) j=true→inV x n j
 |0,j,h,hj,_=>EK.2 (.inl (by omega))
 |m+1,j,h,hj,hs=>by
  rcases LM (n+1) j (Nat.le_refl _) hs with e|⟨r',h1,h2,s,h3,h4,h5⟩
  ·exact EK.2 (.inl e)
  ·have hlt:j<n - r':=by unfold Gt at h4;simp at h4;omega
   have h6:=Mt h2 (n+1 - r')
   rw[show r'+(n+1 - r')=n+1 by omega] at h6
   exact VD n (n - r') j (Kk m (n - r') (by omega) (by omega) h6) s h3 h5 hlt
theorem bZ {x:A1} {n:Nat} (h:n<x.A2.length):vf x n (n+1)=vis x (n:Int):=by
 have e:vis x (n:Int)=Ea x (Ch x n) n n++[n]:=by
  unfold vis
  rw[if_pos (by omega),Int.toNat_natCast,List.getD_eq_getElem?_getD,D9 x (Nat.lt_succ_self n)];rfl
 have hv:∀j,inV x n j↔j∈Ea x (Ch x n) n n++[n]:=fun j=>by
  unfold inV;rw[List.getD_eq_getElem?_getD,D9 x (Nat.lt_succ_self n)];rfl
 rw[e]
 have hn:sn x n (n+1) n=true:=by have:=Mt (x:=x) (n:=n) (r:=0) (j:=n) (by simp[sn]) (n+1);simpa using this
 unfold vf Ea
 rw[List.range_succ,List.filter_append]
 simp only[List.filter_cons,hn,if_true,List.filter_nil]
 congr 1
 refine List.filter_congr fun j hj=> ?_
 have hjn:j<n:=by simpa using hj
 have h2:=hv j
 unfold Ea at h2
 rw[List.mem_append,List.mem_filter,List.mem_range,List.mem_singleton] at h2
 rw[Bool.eq_iff_iff]
 constructor
 ·intro hs
  rcases h2.1 (Kk (n - j) j (Nat.le_refl _) (by omega) hs) with q|q
  ·exact q.2
  ·omega
 ·intro hs
  exact Rz n j (Nat.le_refl _) hn (h2.2 (.inl ⟨hjn,hs⟩))
theorem dk (x:A1) (i:Int) (hz:x.sz≤134217728) (h:HP):CS cx.P 50 [.d ((x).dd false),.d (.lf (.int .i64 (i)))] h (.d (.sl true .one ((vis x i).map dN))) h:=by
 have hz2:=x.sz_eq;unfold szs at hz2
 refine Ze func50 rfl 78 ?_
 apply Zr;intros
 iterate 2 (refine Zo ?_;simp)
 exact Zx
 refine W.seq ?_
 refine W.seq ?_
 refine W.regJ (D:=_) [1,2] [2] [(21,.d (.lf (.bool (!decide (0≤i∧i<(x.A2.length:Int))))))] [] rfl (fun _ K hD hK=> ?_) fun T hT=> ?_
 iterate 3 (refine Zo ?_;simp)
 refine WL.split 15 _ rfl (fun g15=> ?_) fun g15=> ?_<;>try simp at g15
 simp
 iterate 5 (refine Zn hD rfl rfl ?_;simp)
 refine Zo ?_;simp
 refine WL.nil (hK _ (Wz.to rfl rfl rfl ?_))
 simp[g15]<;>first|omega|(intros;omega)|grind
 simp
 iterate 5 (refine Zg hD rfl rfl ?_;simp)
 refine Zo ?_;simp
 refine WL.nil (hK _ (Wz.to rfl rfl rfl ?_))
 simp[g15]<;>first|omega|(intros;omega)|grind
 simp at hT;subst hT
 refine Zc rfl ?_ ?_<;>intro hb0<;>try simp at hb0
 have hno:¬(0≤i∧i<(x.A2.length:Int)):=by omega
 have hres:vis x i=[]:=by unfold vis;exact if_neg hno
 apply Zr;intros
 refine Zo ?_;simp
 exact Zx
 refine W.ret (Zq ?_)
 simp[f50,hres]
 have hin:0≤i∧i<(x.A2.length:Int):=by omega
 obtain⟨n,hn⟩:∃n:Nat,i=(n:Int):=⟨_,(Int.toNat_of_nonneg hin.1).symm⟩
 subst hn
 have hnl:n<x.A2.length:=by omega
 have hwn:=BF (n:=(n:Int)+1) (by omega) (by omega)
 have htn:((n:Int)+1).toNat=n+1:=by omega
 have hi0:n<n+1:=by omega
 refine W.skip ?_
 apply Zr;intros
 iterate 4 (refine Zo ?_ (by simp[hnl,hwn,htn,hi0]<;>omega);simp[hnl,hwn,htn,hi0])
 exact Zx
 apply Zr;intros
 iterate 4 (refine Zo ?_ (by simp[hnl,hwn,htn,hi0]<;>omega);simp[hnl,hwn,htn,hi0])
 exact Zx
 refine W.seq ?_
 apply Zr;intros
 iterate 2 (refine Zo ?_ (by simp[hnl,hwn,htn,hi0]<;>omega);simp[hnl,hwn,htn,hi0])
 exact Zx
 refine W.block ?_
 refine W.loopk [2,5] [2] (fun k0=>[(6,.d (.lf (.int .i64 (tI n k0))))]) (fun k0=>[(24,.d (.st (Ej (sn x n k0) (n+1))))]) (n+1) rfl (by simp[XN,UQ,Xj]) fun k0 hk0 T hT=> ?_
 simp at hT;subst hT
 refine W.seq ?_
 apply Zr;intros
 iterate 2 (refine Zo ?_ (by simp[hnl,hwn,htn,hi0]<;>omega);simp[hnl,hwn,htn,hi0])
 exact Zx
 refine Zc rfl ?_ ?_<;>intro hb1<;>try simp at hb1
 have hlt0:k0<n+1:=by unfold tI at hb1;omega
 obtain⟨q,hqn⟩:∃q:Nat,q=n - k0:=⟨_,rfl⟩
 have hq:tI n k0=(q:Int):=by unfold tI;omega
 have hql:q<x.A2.length:=by omega
 have hqn1:q<n+1:=by omega
 have hw1:IntKind.i64.wrap ((q:Int) - 1)=tI n (k0+1):=by rw[BF (by omega) (by omega)];unfold tI;omega
 have hrd:=J2 (f:=sn x n k0) hqn1
 have hdp:=Kt hql
 have hdy:=Ah A8.sz (gm hql)
 have hdy2:=x.A2[q].sz_eq;unfold szs at hdy2
 refine W.skip ?_
 refine Zb ?_
 refine W.seq ?_
 apply Zr;intros
 iterate 5 (refine Zo ?_ (by simp[hnl,hwn,htn,hi0,hq,hql,hqn1,hw1,hrd]<;>omega);simp[hnl,hwn,htn,hi0,hq,hql,hqn1,hw1,hrd])
 exact Zx
 refine Zc rfl ?_ ?_<;>intro hb2<;>try simp at hb2
 have hst:sn x n (k0+1)=sn x n k0:=by rw[sn, ←hqn,if_neg (by simp[hb2])]
 refine W.exit ?_
 apply Zs;intros
 iterate 3 (refine Zo ?_ (by simp[hnl,hwn,htn,hi0,hq,hql,hqn1,hw1,hrd]<;>omega);simp[hnl,hwn,htn,hi0,hq,hql,hqn1,hw1,hrd])
 exact Zx
 refine⟨hlt0,Wz.to rfl rfl rfl ?_⟩
 simp[hst]
 have hst:snD x (sn x n k0) x.A2[q].BZ q x.A2[q].BZ.length=sn x n (k0+1):=by rw[sn, ←hqn,if_pos (by simpa using hb2),hdp]
 refine W.skip ?_
 apply Zr;intros
 iterate 8 (refine Zo ?_ (by simp[hnl,hwn,htn,hi0,hq,hql,hqn1,hw1,hrd]<;>omega);simp[hnl,hwn,htn,hi0,hq,hql,hqn1,hw1,hrd])
 exact Zx
 refine W.block ?_
 refine W.loopk [2,5,6,43,44] [2] (fun k1=>[(45,.d (.lf (.int .i64 (k1:Int))))]) (fun k1=>[(24,.d (.st (Ej (snD x (sn x n k0) x.A2[q].BZ q k1) (n+1))))]) x.A2[q].BZ.length rfl (by simp[UE]) fun k1 hk1 T hT=> ?_
 simp at hT;subst hT
 apply Zr;intros
 refine Zo ?_ (by simp[hnl,hwn,htn,hi0,hq,hql,hqn1,hw1,hrd]<;>omega);simp[hnl,hwn,htn,hi0,hq,hql,hqn1,hw1,hrd]
 exact Zx
 refine Zv rfl ?_ ?_<;>intro hb3<;>try simp at hb3
 have hx1:=B1 hb3 (by omega)
 refine W.skip ?_
 refine Zb ?_
 apply Zr;intros
 iterate 3 (refine Zo ?_ (by simp[hnl,hwn,htn,hi0,hq,hql,hqn1,hw1,hrd,hb3,hx1]<;>omega);simp[hnl,hwn,htn,hi0,hq,hql,hqn1,hw1,hrd,hb3,hx1])
 exact Zx
 apply Zr;intros
 iterate 2 (refine Zo ?_ (by simp[hnl,hwn,htn,hi0,hq,hql,hqn1,hw1,hrd,hb3,hx1]<;>omega);simp[hnl,hwn,htn,hi0,hq,hql,hqn1,hw1,hrd,hb3,hx1])
 refine Zl [] rfl func116 (dy x x.A2[q].BZ[k1] hz _) ?_ (by simp[hnl,hwn,htn,hi0,hq,hql,hqn1,hw1,hrd,hb3,hx1]);simp[hnl,hwn,htn,hi0,hq,hql,hqn1,hw1,hrd,hb3,hx1]
 refine Zo ?_ (by simp[hnl,hwn,htn,hi0,hq,hql,hqn1,hw1,hrd,hb3,hx1]<;>omega);simp[hnl,hwn,htn,hi0,hq,hql,hqn1,hw1,hrd,hb3,hx1]
 exact Zx
 refine W.seq ?_
 refine W.regJ (D:=_) [2,5,6,9,43,44,45] [2,24] [(58,.d (.lf (.bool (Gt x q x.A2[q].BZ[k1]))))] [] rfl (fun _ K hD hK=> ?_) fun T hT=> ?_
 iterate 3 (refine Zo ?_ (by simp[hnl,hwn,htn,hi0,hq,hql,hqn1,hw1,hrd,hb3,hx1]<;>omega);simp[hnl,hwn,htn,hi0,hq,hql,hqn1,hw1,hrd,hb3,hx1])
 refine WL.split 54 _ rfl (fun g54=> ?_) fun g54=> ?_<;>try simp at g54
 simp[hnl,hwn,htn,hi0,hq,hql,hqn1,hw1,hrd,hb3,hx1]
 iterate 3 (refine Zg hD rfl rfl ?_ (by simp[hnl,hwn,htn,hi0,hq,hql,hqn1,hw1,hrd,hb3,hx1]<;>omega);simp[hnl,hwn,htn,hi0,hq,hql,hqn1,hw1,hrd,hb3,hx1])
 refine Zo ?_ (by simp[hnl,hwn,htn,hi0,hq,hql,hqn1,hw1,hrd,hb3,hx1]<;>omega);simp[hnl,hwn,htn,hi0,hq,hql,hqn1,hw1,hrd,hb3,hx1]
 refine WL.nil (hK _ (Wz.to rfl rfl rfl ?_))
 simp[Gt,g54]<;>first|omega|(intros;omega)
 simp[hnl,hwn,htn,hi0,hq,hql,hqn1,hw1,hrd,hb3,hx1]
 iterate 3 (refine Zn hD rfl rfl ?_;simp[hnl,hwn,htn,hi0,hq,hql,hqn1,hw1,hrd,hb3,hx1])
 refine Zo ?_ (by simp[hnl,hwn,htn,hi0,hq,hql,hqn1,hw1,hrd,hb3,hx1]<;>omega);simp[hnl,hwn,htn,hi0,hq,hql,hqn1,hw1,hrd,hb3,hx1]
 refine WL.nil (hK _ (Wz.to rfl rfl rfl ?_))
 simp[Gt,g54]<;>first|omega|(intros;omega)
 simp at hT;subst hT
 refine Zc rfl ?_ ?_<;>intro hb4<;>try simp at hb4
 have hh:Gt x q x.A2[q].BZ[k1]=true:=hb4
 have hh2:=hh
 unfold Gt at hh2
 simp at hh2
 obtain⟨j,hj⟩:∃j:Nat,pIx x x.A2[q].BZ[k1]=(j:Int):=⟨_,(Int.toNat_of_nonneg hh2.1).symm⟩
 have hjn:j<n+1:=by omega
 have hs:=Xq (f:=sn x n k0) hb3 hh hj (n+1)
 apply Zs;intros
 iterate 4 (refine Zo ?_ (by simp[hnl,hwn,htn,hi0,hq,hql,hqn1,hw1,hrd,hb3,hx1,hj,hjn]<;>omega);simp[hnl,hwn,htn,hi0,hq,hql,hqn1,hw1,hrd,hb3,hx1,hj,hjn])
 exact Zx
 apply Zs;intros
 iterate 2 (refine Zo ?_ (by simp[hnl,hwn,htn,hi0,hq,hql,hqn1,hw1,hrd,hb3,hx1,hj,hjn]<;>omega);simp[hnl,hwn,htn,hi0,hq,hql,hqn1,hw1,hrd,hb3,hx1,hj,hjn])
 exact Zx
 refine⟨hb3,Wz.to rfl rfl rfl ?_⟩
 simp[hs]
 have hs:=cO (f:=sn x n k0) hb3 (by simpa using hb4)
 refine W.skip ?_
 apply Zs;intros
 iterate 2 (refine Zo ?_ (by simp[hnl,hwn,htn,hi0,hq,hql,hqn1,hw1,hrd,hb3,hx1]<;>omega);simp[hnl,hwn,htn,hi0,hq,hql,hqn1,hw1,hrd,hb3,hx1])
 exact Zx
 refine⟨hb3,Wz.to rfl rfl rfl ?_⟩
 simp[hs]
 have hkl:k1=x.A2[q].BZ.length:=by omega
 subst hkl
 refine W.exit ?_
 apply Zs;intros
 iterate 3 (refine Zo ?_ (by simp[hnl,hwn,htn,hi0,hq,hql,hqn1,hw1,hrd]<;>omega);simp[hnl,hwn,htn,hi0,hq,hql,hqn1,hw1,hrd])
 exact Zx
 refine⟨hlt0,Wz.to rfl rfl rfl ?_⟩
 simp[hst]
 have hkl:k0=n+1:=by unfold tI at hb1;omega
 subst hkl
 refine W.exit ?_
 apply Zr;intros
 iterate 2 (refine Zo ?_ (by simp[hnl,hwn,htn,hi0]<;>omega);simp[hnl,hwn,htn,hi0])
 exact Zx
 refine W.seq ?_
 apply Zr;intros
 iterate 3 (refine Zo ?_ (by simp[hnl,hwn,htn,hi0]<;>omega);simp[hnl,hwn,htn,hi0])
 exact Zx
 refine W.block ?_
 refine W.loopk [64,65] [24] (fun k2=>[(66,.d (.lf (.int .i64 (k2:Int)))),(10,.d (.sl true .one ((vf x n k2).map dN)))]) (fun _=>[]) (n+1) rfl (by simp[X1]) fun k2 hk2 T hT=> ?_
 simp at hT;subst hT
 have hvl:=ba x n k2
 apply Zr;intros
 refine Zo ?_ (by simp[hnl,hwn,htn,hi0]<;>omega);simp[hnl,hwn,htn,hi0]
 exact Zx
 refine Zv rfl ?_ ?_<;>intro hb5<;>try simp at hb5
 have hk2n:k2<n+1:=by omega
 have hx2:=B1 hk2n (by omega)
 have hrd2:=J2 (f:=sn x n (n+1)) hk2n
 refine W.skip ?_
 refine Zb ?_
 apply Zr;intros
 iterate 5 (refine Zo ?_ (by simp[hnl,hwn,htn,hi0,hk2n,hx2,hrd2]<;>omega);simp[hnl,hwn,htn,hi0,hk2n,hx2,hrd2])
 exact Zx
 apply Zr;intros
 refine Zo ?_ (by simp[hnl,hwn,htn,hi0,hk2n,hx2,hrd2]<;>omega);simp[hnl,hwn,htn,hi0,hk2n,hx2,hrd2]
 exact Zx
 refine Zc rfl ?_ ?_<;>intro hb6<;>try simp at hb6
 have hs:=bY hb6
 apply Zs;intros
 refine Zm [72] ?_ (by simp[hnl,hwn,htn,hi0,hk2n,hx2,hrd2]<;>omega);simp[hnl,hwn,htn,hi0,hk2n,hx2,hrd2]
 iterate 4 (refine Zo ?_ (by simp[hnl,hwn,htn,hi0,hk2n,hx2,hrd2]<;>omega);simp[hnl,hwn,htn,hi0,hk2n,hx2,hrd2])
 exact Zx
 apply Zs;intros
 iterate 2 (refine Zo ?_ (by simp[hnl,hwn,htn,hi0,hk2n,hx2,hrd2]<;>omega);simp[hnl,hwn,htn,hi0,hk2n,hx2,hrd2])
 exact Zx
 refine⟨(by omega),Wz.to rfl rfl rfl ?_⟩
 simp[hs]
 have hs:=gA (by simpa using hb6)
 refine W.skip ?_
 apply Zs;intros
 iterate 2 (refine Zo ?_ (by simp[hnl,hwn,htn,hi0,hk2n,hx2,hrd2]<;>omega);simp[hnl,hwn,htn,hi0,hk2n,hx2,hrd2])
 exact Zx
 refine⟨(by omega),Wz.to rfl rfl rfl ?_⟩
 simp[hs]
 have hkl:k2=n+1:=by omega
 subst hkl
 have hres:=bZ hnl
 refine W.exit ?_
 apply Zr;intros
 refine Zm [77] ?_ (by simp[hnl,hwn,htn,hi0]<;>omega);simp[hnl,hwn,htn,hi0]
 refine Zo ?_ (by simp[hnl,hwn,htn,hi0]<;>omega);simp[hnl,hwn,htn,hi0]
 exact Zx
 refine W.ret (Zq ?_)
 simp[f50,hres]
