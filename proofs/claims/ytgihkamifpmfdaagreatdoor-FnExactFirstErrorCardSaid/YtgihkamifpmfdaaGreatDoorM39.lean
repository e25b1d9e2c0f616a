/- Part 39. No condition. -/
import Derived.Test.YtgihkamifpmfdaaGreatDoorM35
import Derived.Test.YtgihkamifpmfdaaGreatDoorM37
import Derived.Test.YtgihkamifpmfdaaGreatDoorM38
namespace Go.Proofs.YtgihkamifpmfdaaGreatDoor
open Go.RowKit Tryz
set_option linter.unusedVariables false
set_option maxRecDepth 10000
set_option linter.unusedSimpArgs false
set_option maxHeartbeats 4000000
instance:DecidableEq A3:=fun x y=>decidable_of_iff (x.BA=y.BA∧x.fAt=y.fAt) (by cases x;cases y;simp)
def bds:List BA'→List A0→List A6
 |v::l,t::m=>⟨v,t⟩::bds l m
 |_,_=>[]
def bdK (l:List BA') (m:List A0) (k:Nat):List A6:=bds (l.take k) (m.take k)
theorem Oc (l:List BA') (m:List A0):bdK l m 0=[]:=by simp[bdK,bds]
theorem Rr:∀(a:List BA') (b:List A0) (v:BA') (t:A0),a.length=b.length→bds (a++[v]) (b++[t])=bds a b++[⟨v,t⟩]
 |[],[],_,_,_=>rfl
 |x::a,y::b,v,t,h=>by simp only[List.cons_append,bds,Rr a b v t (by simpa using h)]
 |[],_::_,_,_,h=>by simp at h
 |_::_,[],_,_,h=>by simp at h
theorem XV {l:List BA'} {m:List A0} {k:Nat} (h:k<l.length) (hm:k<m.length):bdK l m (k+1)=bdK l m k++[⟨l[k],m[k]⟩]:=by
 unfold bdK
 rw[Y' h,Y' hm,Rr _ _ _ _ (by simp;omega)]
theorem MW:∀(l:List BA') (m:List A0) (k:Nat),min l.length m.length≤k→bds (l.take k) (m.take k)=bds l m
 |[],m,k,_=>by simp[bds]
 |x::l,[],k,_=>by cases k<;>simp[bds]
 |x::l,y::m,0,h=>by simp at h
 |x::l,y::m,k+1,h=>by simp only[List.take_succ_cons,bds];rw[MW l m k (by simp at h;omega)]
theorem bA {l:List BA'} {m:List A0} {k:Nat} (h:l.length≤k∨m.length≤k):bdK l m k=bds l m:=MW l m k (by omega)
theorem Rs (l:List BA') (m:List A0) (k:Nat):(bdK l m k).length≤k:=by
 have:∀(a:List BA') (b:List A0),(bds a b).length≤a.length:=by
  intro a
  induction a with
  |nil=>intro b;simp[bds]
  |cons x a ih=>intro b;cases b with
   |nil=>simp[bds]
   |cons y b=>have:=ih b;simp only[bds,List.length_cons];omega
 have:=this (l.take k) (m.take k)
 unfold bdK;simp only[List.length_take] at this;omega
theorem MX:∀{l:List BA'} {m:List A0} {b:A6},b∈bds l m→b.AM∈m
 |[],m,b,h=>by simp[bds] at h
 |_::_,[],b,h=>by simp[bds] at h
 |v::l,t::m,b,h=>by
  simp only[bds,List.mem_cons] at h
  rcases h with rfl|h
  ·simp
  ·exact List.mem_cons_of_mem _ (MX h)
mutual
def nb:A0→Prop
 |⟨k,n,l⟩=>(k=2→Cq n=true→l=[])∧nbs l
def nbs:List A0→Prop
 |[]=>True
 |x::l=>nb x∧nbs l
end
theorem Qn:∀{l:List A0},nbs l→∀x∈l,nb x
 |y::l,h,x,hx=>by
  simp only[nbs] at h
  rcases List.mem_cons.1 hx with rfl|hx
  ·exact h.1
  ·exact Qn h.2 x hx
theorem ZI {x:A0} (h:nb x):∀y∈x.AB,nb y:=by cases x;simp only[nb] at h;exact Qn h.2
theorem ZH {x:A0} (h:nb x) (hk:x.AH=2) (hb:Cq x.A5=true):x.AB=[]:=by cases x;simp only[nb] at h;exact h.1 hk hb
mutual
theorem cI {s:List A6} (h:∀b∈s,nb b.AM):∀{t:A0},nb t→nb (ap s t)
 |⟨k,n,l⟩,ht=>by
  simp only[nb] at ht
  rw[ap]
  split
  ·rename_i u hu
   split at hu
   ·obtain⟨b,h1, -,h3⟩:=F7 hu
    rw[←h3];exact h b h1
   ·cases hu
  ·simp only[nb]
   refine⟨fun hk hb=> ?_,VR h ht.2⟩
   rw[ht.1 hk hb];rfl
theorem VR {s:List A6} (h:∀b∈s,nb b.AM):∀{l:List A0},nbs l→nbs (aps s l)
 |[],_=>trivial
 |x::l,hl=>by simp only[nbs] at hl;simp only[aps,nbs];exact⟨cI h hl.1,VR h hl.2⟩
end
structure GU (U:List BA') (x:A0):Prop where
 wd:x.wd
 nb:nb x
 vi:vin U x
theorem GU.args {U:List BA'} {x:A0} (h:GU U x):∀y∈x.AB,GU U y:=fun y hy=>⟨Bj h.wd y hy,ZI h.nb y hy,E2 (Ed h.vi) y hy⟩
theorem GU.ap {U V:List BA'} {s:List A6} {x:A0} (hs:∀b∈s,GU U b.AM) (h:GU V x):GU (U++V) (ap s x):=
 ⟨Mm (fun b hb=>(hs b hb).wd) h.wd,cI (fun b hb=>(hs b hb).nb) h.nb,HX (fun b hb=>E3 (fun v hv=>List.mem_append_left _ hv) (hs b hb).vi) (E3 (fun v hv=>List.mem_append_right _ hv) h.vi)⟩
def GT (m:Nat) (x:A0):Prop:=∃U:List BA',U.length≤m∧GU U x
theorem GT.wd {m:Nat} {x:A0} (h:GT m x):x.wd:=by obtain⟨U, -,h⟩:=h;exact h.wd
theorem GT.nb {m:Nat} {x:A0} (h:GT m x):nb x:=by obtain⟨U, -,h⟩:=h;exact h.nb
theorem GT.ap {m:Nat} {V:List BA'} {s:List A6} {t x:A0} (ht:GT m t) (hs:∀P:A0→Prop,(∀z,P z→∀y∈z.AB,P y)→P t→∀b∈s,P b.AM) (h:GU V x) (hV:V.length≤3):GT (m+3) (ap s x):=by
 obtain⟨U,h1,h2⟩:=ht
 exact⟨U++V,by simp;omega,GU.ap (hs (GU U) (fun z hz=>hz.args) h2) h⟩
mutual
theorem cK {P:A0→Prop} (hP:∀z,P z→∀y∈z.AB,P y):∀{p t:A0} {s s1:List A6},mtT p t s=some s1→P t→(∀b∈s,P b.AM)→∀b∈s1,P b.AM
 |⟨k,n,l⟩,t,s,s1,h,ht,hs=>by
  simp only[mtT] at h
  split at h
  ·split at h
   ·split at h
    ·cases h;exact hs
    ·cases h
   ·cases h
    intro b hb
    rcases List.mem_append.1 hb with hb|hb
    ·exact hs b hb
    ·simp only[List.mem_singleton] at hb;subst hb;exact ht
  ·split at h
   ·exact VS hP h (hP t ht) hs
   ·cases h
theorem VS {P:A0→Prop} (hP:∀z,P z→∀y∈z.AB,P y):∀{l m:List A0} {s s1:List A6},DJ l m s=some s1→(∀y∈m,P y)→(∀b∈s,P b.AM)→∀b∈s1,P b.AM
 |x::l,y::m,s,s1,h,hm,hs=>by
  simp only[DJ] at h
  cases hq:mtT x y s with
  |none=>rw[hq] at h;cases h
  |some s2=>
   rw[hq] at h
   exact VS hP h (fun z hz=>hm z (by simp[hz])) (cK hP hq (hm y (by simp)) hs)
 |[],m,s,s1,h,_,hs=>by rw[Er] at h;cases h;exact hs
 |_::_,[],s,s1,h,_,hs=>by simp[DJ] at h;subst h;exact hs
end
theorem cJ {p t:A0}:∀P:A0→Prop,(∀z,P z→∀y∈z.AB,P y)→P t→∀b∈(mtc p t).getD [],P b.AM:=fun P hP ht=>by
 cases h:mtc p t with
 |none=>simp
 |some s=>exact cK hP h ht (by simp)
theorem lE {l:List BA'} {t:A0}:∀P:A0→Prop,(∀z,P z→∀y∈z.AB,P y)→P t→∀b∈bds l t.AB,P b.AM:=fun P hP ht b hb=>hP t ht _ (MX hb)
structure vP (w:A1):Prop where
 sz:w.sz≤16777216
 da:∀s c f,c∈(daR w s).1.A4→f∈c.Av→GU (daR w s).1.Aa f
 dv:∀s,(daR w s).1.Aa.length≤3
 hd:∀o,inR w o→hdS (Ao w o).At∧GU (Ao w o).Aa (Ao w o).At
 iv:∀o,inR w o→(Ao w o).Aa.length≤3
 iw:∀o,inR w o→(Ao w o).Ah.length≤4∧∀b∈(Ao w o).Ah,GU (Ao w o).Aa b.AM
def fOk (F:List AD):Prop:=F.length≤134217728∧∀a∈F,a.DY.length≤134217728
theorem WM:∀(F:List AD) (g:A9) (i:Nat),0≤fAj F g i→fAj F g i<(i:Int)+F.length
 |[],g,i,h=>by simp[fAj] at h
 |a::F,g,i,h=>by
  simp only[fAj] at h ⊢
  split
  ·simp;omega
  ·rename_i e
   rw[if_neg e] at h
   have:=WM F g (i+1) h
   simp only[List.length_cons];omega
theorem Fm {F:List AD} {g:A9} (h:0≤fAi F g):(fAi F g).toNat<F.length∧((fAi F g).toNat:Int)=fAi F g:=by
 have:=WM F g 0 h
 unfold fAi at*;omega
def zAs:AD:=⟨⟨⟨#[]⟩,zT⟩,0,[]⟩
def fAa (F:List AD) (g:A9):AD:=F.getD (fAi F g).toNat zAs
theorem MI {F:List AD} {g:A9} {k:Nat} (h:fAi F g=(k:Int)) (hk:k<F.length):fAa F g=F[k]:=by
 unfold fAa;rw[h];simp[List.getD_eq_getElem?_getD,hk]
def Co (l:List A0) (t:A0):Bool:=l.any fun u=>eqT u t
theorem W0 {l:List A0} {t:A0} {k:Nat} (h:k<l.length):Co (l.drop k) t=(eqT l[k] t||Co (l.drop (k+1)) t):=by
 rw[List.drop_eq_getElem_cons h];rfl
theorem TH {l:List A0} {t:A0} {k:Nat} (h:l.length≤k):Co (l.drop k) t=false:=by
 rw[List.drop_eq_nil_of_le h];rfl
def daT (w:A1) (t:A0):Bool:=decide (t.AH=2) && ((daR w t.A5).2.2 && decide ((daR w t.A5).1.Aa.length=t.AB.length))
def au (w:A1) (F:List AD) (tr:BA'):Nat→A0→List A0→Int
 |0,_,_=>0
 |n+1,t,op=>
  if t.AH=2∧Cq t.A5=true then 0
  else if 0≤fAi F ⟨tr,t⟩ then 0
  else if Co op t=true then 0
  else if ¬daT w t=true then 1
  else if 30<op.length then 3
  else if 400<szW t then 3
  else fc (fun c:AA=>fc (fun f=>au w F tr n (ap (bds (daR w t.A5).1.Aa t.AB) f) (op++[t])) c.Av) (daR w t.A5).1.A4
def auF (w:A1) (F:List AD) (tr:BA') (n:Nat) (t:A0) (op:List A0) (f:A0):Int:=au w F tr n (ap (bds (daR w t.A5).1.Aa t.AB) f) (op++[t])
def auC (w:A1) (F:List AD) (tr:BA') (n:Nat) (t:A0) (op:List A0) (c:AA):Int:=fc (auF w F tr n t op) c.Av
theorem XX (w:A1) (F:List AD) (tr:BA') (n:Nat) (t:A0) (op:List A0):au w F tr (n+1) t op=
  if t.AH=2∧Cq t.A5=true then 0
  else if 0≤fAi F ⟨tr,t⟩ then 0
  else if Co op t=true then 0
  else if ¬daT w t=true then 1
  else if 30<op.length then 3
  else if 400<szW t then 3
  else fc (auC w F tr n t op) (daR w t.A5).1.A4:=rfl
def cnd (w:A1) (g:A9) (o:A3):Bool:=decide ((Ao w o).AK=g.AK) && mtB (Ao w o).At g.AM
def C0 (w:A1) (g:A9):List A3:=(BF w).filter (cnd w g)
def fiK {α:Type} (p:α→Bool) (l:List α) (k:Nat):List α:=(l.take k).filter p
theorem WB {α:Type} (p:α→Bool) (l:List α):fiK p l 0=[]:=by simp[fiK]
theorem WC {α:Type} {p:α→Bool} {l:List α} {k:Nat} (h:k<l.length):fiK p l (k+1)=if p l[k]=true then fiK p l k++[l[k]] else fiK p l k:=by
 unfold fiK;rw[Y' h,List.filter_append]
 by_cases e:p l[k]=true<;>simp[e]
theorem aJ {α:Type} {p:α→Bool} {l:List α} {k:Nat} (h:l.length≤k):fiK p l k=l.filter p:=by unfold fiK;rw[List.take_of_length_le h]
theorem aI {α:Type} (p:α→Bool) (l:List α) (k:Nat):(fiK p l k).length≤k:=by
 have h:=List.length_filter_le p (l.take k)
 unfold fiK;simp only[List.length_take] at h;omega
theorem HM {w:A1} {g:A9} {o:A3} (h:o∈C0 w g):inR w o:=Dc (List.mem_filter.1 h).1
theorem OZ (w:A1) (g:A9):(C0 w g).length≤w.sz:=Nat.le_trans (List.length_filter_le _ _) (Dj w)
def beS (w:A1) (o r:A3):Bool:=Gw (Ao w r).At (Ao w o).At
def KB (w:A1) (l:List A3) (o:A3):Bool:=l.all fun r=> !beS w o r
def beK (w:A1) (l:List A3) (o:A3) (k:Nat):Bool:=KB w (l.take k) o
theorem XO (w:A1) (l:List A3) (o:A3):beK w l o 0=true:=by simp[beK,KB]
theorem gp (w:A1) {l:List A3} (o:A3) {k:Nat} (h:k<l.length):beK w l o (k+1)=(beK w l o k && !beS w o l[k]):=by
 unfold beK KB;rw[Y' h,List.all_append];simp
theorem b8 (w:A1) {l:List A3} (o:A3) {k:Nat} (h:l.length≤k):beK w l o k=KB w l o:=by unfold beK;rw[List.take_of_length_le h]
theorem XN (w:A1) (l:List A3) (o:A3):KB w l o= !l.any (beS w o):=by
 unfold KB;induction l with
 |nil=>rfl
 |cons x l ih=>simp only[List.all_cons,List.any_cons,ih,Bool.not_or]
def JH (w:A1) (g:A9):List A3→A3×Int
 |[]=>(⟨0,0⟩,1)
 |o::l=>if KB w (C0 w g) o=true then (if (Ao w o).Ca=true∧gnd g.AM=false then (⟨0,0⟩,2) else (o,0)) else JH w g l
def sel (w:A1) (g:A9):A3×Int:=JH w g (C0 w g)
theorem QR (w:A1) (g:A9) {l:List A3} {k:Nat} (h:k<l.length):JH w g (l.drop k)=if KB w (C0 w g) l[k]=true then (if (Ao w l[k]).Ca=true∧gnd g.AM=false then (⟨0,0⟩,2) else (l[k],0)) else JH w g (l.drop (k+1)):=by
 rw[List.drop_eq_getElem_cons h];rfl
theorem NK (w:A1) (g:A9) {l:List A3} {k:Nat} (h:l.length≤k):JH w g (l.drop k)=(⟨0,0⟩,1):=by
 rw[List.drop_eq_nil_of_le h];rfl
theorem Lk {w:A1} {g:A9}:∀{l:List A3},(JH w g l).2=0→(JH w g l).1∈l
 |[],h=>by simp[JH] at h
 |o::l,h=>by
  simp only[JH] at h ⊢
  split
  ·split
   ·rename_i e1 e2;rw[if_pos e1,if_pos e2] at h;simp at h
   ·simp
  ·rename_i e;rw[if_neg e] at h;exact List.mem_cons_of_mem _ (Lk h)
theorem Us {w:A1} {g:A9} (h:(sel w g).2=0):inR w (sel w g).1:=HM (Lk h)
def whF (s:List A6) (b:A9):A9:=⟨b.AK,ap s b.AM⟩
def whS (w:A1) (o:A3) (g:A9):List A6:=(mtc (Ao w o).At g.AM).getD []
def inL (w:A1) (f:A9→A7×Int) (g:A9) (o:A3):A7×Int:=
 if fc (fun b=>(f (whF (whS w o g) b)).2) (Ao w o).Ah=0 then (⟨1,0,o,(Ao w o).Ah.map fun b=>(f (whF (whS w o g) b)).1⟩,0) else (⟨0,0,⟨0,0⟩,[]⟩,fc (fun b=>(f (whF (whS w o g) b)).2) (Ao w o).Ah)
def inE (w:A1) (f:A9→A7×Int) (g:A9):A7×Int:=if (sel w g).2=0 then inL w f g (sel w g).1 else (⟨0,0,⟨0,0⟩,[]⟩,(sel w g).2)
def sol (w:A1) (F:List AD):Nat→A9→A7×Int
 |0,g=>if 0≤fAi F g then (apS ⟨2,(fAa F g).Eu,⟨0,0⟩,[]⟩ (fAa F g).DY,0) else (⟨0,0,⟨0,0⟩,[]⟩,3)
 |n+1,g=>if 0≤fAi F g then (apS ⟨2,(fAa F g).Eu,⟨0,0⟩,[]⟩ (fAa F g).DY,0)
  else if (trR w g.AK).1.CP=true then (if au w F g.AK 32 g.AM []=0 then (⟨5,0,⟨0,0⟩,[]⟩,0) else (⟨0,0,⟨0,0⟩,[]⟩,au w F g.AK 32 g.AM []))
  else if g.AM.AH=1∨g.AM.AH=3 then (⟨0,0,⟨0,0⟩,[]⟩,1)
  else if g.AM.AH=4∧(pth w g.AK 8 g.AM.A5).isSome=true then (apS ⟨4,0,⟨0,0⟩,[]⟩ (((pth w g.AK 8 g.AM.A5).getD []).map fun (n:Nat)=>(n:Int)),0)
  else inE w (sol w F n) g
def spG (x:AJ) (s:BA'):A9:=⟨s,x.At⟩
noncomputable def spC (w:A1) (o:A3):Int:=fc (fun s=>(sol w (asm w (Ao w o).Ah) 12 (spG (Ao w o) s)).2) (Al w (Ao w o).AK)
def H4 (l:List A3) (o:A3):Bool:=l.any fun x=>decide (x=o)
theorem a6 {l:List A3} {o:A3} {k:Nat} (h:k<l.length):H4 (l.drop k) o=(decide (l[k]=o)||H4 (l.drop (k+1)) o):=by
 rw[List.drop_eq_getElem_cons h];rfl
theorem W1 {l:List A3} {o:A3} {k:Nat} (h:l.length≤k):H4 (l.drop k) o=false:=by
 rw[List.drop_eq_nil_of_le h];rfl
noncomputable def coC (w:A1) (o:A3):Int:=
 if ¬Fc w o=true then 1
 else if H4 (over w) o=true then 2
 else if ¬FW (Ao w o)=true then 3
 else if ¬ER (Ao w o)=true then 4
 else if spC w o=0 then 0 else 5
noncomputable def coS (w:A1) (o:A3):List AP:=if coC w o=0 then [] else [⟨coC w o,o⟩]
noncomputable def GG (w:A1):List AP:=if Tc w=true then fa (coS w) (BF w) else [⟨6,⟨0,0⟩⟩]
theorem gZ (w:A1) (o:A3):(coS w o).length≤1:=by unfold coS;split<;>simp
theorem Qi (w:A1) {l:List A3} {k:Nat} (h:k<l.length) (e:bdA w l[k] (l.take k)=true):ovK w l (k+1)=ovK w l k++[l[k]]:=by rw[VI w h,if_pos e]
theorem VJ (w:A1) {l:List A3} {k:Nat} (h:k<l.length) (e:bdA w l[k] (l.take k)=false):ovK w l (k+1)=ovK w l k:=by rw[VI w h,if_neg (by rw[e];decide)]
theorem XU (w:A1) (o:A3) {l:List A3} {k j:Nat} (h:j<k) (hl:j<l.length):bdA w o ((l.take k).drop j)=(!ovA (Ao w l[j]) (Ao w o)||bdA w o ((l.take k).drop (j+1))):=by
 rw[gq w o (by simp;omega),List.getElem_take]
theorem XR {a b c:Bool} (h:a=(!b||c)) (e:b=false):a=true:=by rw[h,e];rfl
theorem XS {a b c:Bool} (h:a=(!b||c)) (e:b=true):a=c:=by rw[h,e];rfl
theorem GT.mono {m m2:Nat} {x:A0} (h:GT m x) (hm:m≤m2):GT m2 x:=by
 obtain⟨U,h1,h2⟩:=h
 exact⟨U,by omega,h2⟩
theorem GT.tvO {m:Nat} {x:A0} (h:GT m x) (hm:m≤67108864):tvO x []:=by
 obtain⟨U,h1,h2⟩:=h
 exact Ig h2.wd (by omega) h2.vi
theorem ku {α:Type} {p:α→Bool} {l:List α} {k:Nat} (h:k<l.length) (e:p l[k]=true):fiK p l (k+1)=fiK p l k++[l[k]]:=by rw[WC h,if_pos e]
theorem kv {α:Type} {p:α→Bool} {l:List α} {k:Nat} (h:k<l.length) (e:p l[k]=false):fiK p l (k+1)=fiK p l k:=by rw[WC h,if_neg (by rw[e];decide)]
theorem fx {w:A1} {g:A9} {k:Nat} (h:k<(BF w).length) (e:(Ao w (BF w)[k]).AK=g.AK∧mtB (Ao w (BF w)[k]).At g.AM=true):fiK (cnd w g) (BF w) (k+1)=fiK (cnd w g) (BF w) k++[(BF w)[k]]:=ku h (by unfold cnd;simp[e.1,e.2])
theorem fy {w : A1} {g : A9} {k : Nat} (h : k < (BF w).length) (e : (Ao w (BF w)[k]).AK = g.AK → mtB (Ao w (BF w)[k]).At g.AM = false) : fiK (cnd w g) (BF w) (k + 1) = fiK (cnd w g) (BF w) k := kv h (by
 unfold cnd
 by_cases q:(Ao w (BF w)[k]).AK=g.AK
 ·rw[e q];simp
 ·simp[q])
theorem XY {w:A1} (hv:vP w) {t f:A0} {c:AA} {m:Nat} (ht:GT m t) (hc:c∈(daR w t.A5).1.A4) (hf:f∈c.Av):GT (m+3) (ap (bds (daR w t.A5).1.Aa t.AB) f):=
 ht.ap lE (hv.da _ c f hc hf) (hv.dv _)
theorem XQ {l:List BA'} {t:A0} (h:t.wd):∀b∈bds l t.AB,b.AM.wd:=fun b hb=>Bj h _ (MX hb)
theorem Tq {w:A1} (hv:vP w) {o:A3} (ho:inR w o) {g b:A9} {m:Nat} (ht:GT m g.AM) (hb:b∈(Ao w o).Ah):GT (m+3) (ap (whS w o g) b.AM):=
 ht.ap cJ ((hv.iw o ho).2 b hb) (hv.iv o ho)
theorem Tp {w:A1} {o:A3} {g:A9} (h:g.AM.wd):∀b∈whS w o g,b.AM.wd:=cJ A0.wd (fun _ hz=>Bj hz) h
theorem Fb (w:A1) (u s:BA'):((pth w u 8 s).getD []).length≤8:=by
 cases h:pth w u 8 s with
 |none=>simp
 |some r=>exact Im 8 s r h
theorem Xh (w:A1):∀(l:List A9) (i:Nat),∀a∈asF w i l,a.DY.length≤8
 |[],_,a,h=>by simp[asF] at h
 |b::l,i,a,h=>by
  simp only[asF,List.cons_append,List.mem_cons,List.mem_append,List.mem_map] at h
  rcases h with rfl|⟨u, -,rfl⟩|h
  ·simp
  ·simp only[List.length_map];exact Fb w u b.AK
  ·exact Xh w l (i+1) a h
theorem Xa {w:A1} {l:List A9} (hz:w.sz≤16777216) (hl:l.length≤4):fOk (asm w l):=by
 refine⟨?_,fun a ha=>Nat.le_trans (Xh w l 0 a ha) (by decide)⟩
 have h:=Iw w l l.length (Nat.le_refl _)
 rw[MY (Nat.le_refl _)] at h
 have:l.length*(1+w.sz)≤4*(1+w.sz):=Nat.mul_le_mul_right _ hl
 omega
attribute [simp] X7 gb bE
def TQ (l:List AA) (s:BA') (k0 k2:Nat):Bool:=((l.take k0).drop k2).any fun c=>decide (c.A5=s)
theorem Dx {l:List AA} {s:BA'} {k0 k2:Nat} (h:k2<k0) (h2:k0≤l.length):TQ l s k0 k2=(decide ((l[k2]'(by omega)).A5=s)||TQ l s k0 (k2+1)):=by
  unfold TQ
  rw[Cc (l:=l.take k0) (by simp;omega)]
  simp
theorem DP {l:List AA} {s:BA'} {k0 k2:Nat} (h:k0≤k2):TQ l s k0 k2=false:=by
  unfold TQ;exact Bp (by simp;omega)
theorem ju (d:AF) (a:List Ac) (h:HP):CS cx.P 290 [.d ((d).dd false),.d (.sl false BL ((a).map (Ac.dd false)))] h (dB' (H8 d a)) h:=by
 refine Xe func290 rfl 78 [.tmp 4] ?_
 let M:List Nat:=[]
 let G:List Nat:=[]
 have H:=AN
 repeat' (first|refine GO ?_|(refine Two.mk ?_ ?_<;>intro hb<;>(try simp at hb)<;>(try norm_cast at hb)<;>try replace H:=HN hb H)|(refine RG.mk ?_;(try clear hK hD);first|intro _ K hD hK|intro K hD hK)|(refine RF.mk ?_;intro hr)|(refine LF.mk ?_;(try clear hK hD);first|rfl|(simp[H8,Ay,As,Do,G3,BZ,BX, *];done)))
 have hlp:LF (a.length=d.A4.length):=⟨‹_›⟩;clear ‹a.length=d.A4.length›
 refine W.loopR [1,2] [2] (fun k0 _=>[(5,dI' k0)]) (fun _ _=>[]) (d.A4.length) (fun k0 _=>fs (bad (G3 d.A4 a)) 0 d.A4=fs (bad (G3 d.A4 a)) k0 (d.A4.drop k0)) (fun S=>()) rfl (by simp) (by first|trivial|rfl|(simp;done)|(simp[H8,Ay,As,Do,G3,Dx,DP,BZ,BX,hlp.r];done)|(simp_all [H8,Ay,As,Do,G3,Dx,DP,BZ,BX,hlp.r];done)) ?_
 intro k0 hk0 s0 hi0 T hT;simp at hT;subst hT
 repeat' (first|refine GO ?_|(refine Two.mk ?_ ?_<;>intro hb<;>(try simp at hb)<;>(try norm_cast at hb)<;>try replace H:=HN hb H)|(refine RG.mk ?_;(try clear hK hD);first|intro _ K hD hK|intro K hD hK)|(refine RF.mk ?_;intro hr)|(refine LF.mk ?_;(try clear hK hD);first|rfl|(simp[H8,Ay,As,Do,G3,Dx,DP,BZ,BX,hlp.r, *];done)))
 refine W.loopR [1,2,5] [2] (fun k1 _=>[(7,dI' k1),(6,dI' (((cnt (TW d.A4[k0]) a k1:Nat):Int)))]) (fun _ _=>[]) (a.length) (fun _ _=>True) (fun S=>()) rfl (by simp) (by first|trivial|rfl|(simp;done)|(simp[H8,Ay,As,Do,G3,Dx,DP,BZ,BX,hlp.r];done)|(simp_all [H8,Ay,As,Do,G3,Dx,DP,BZ,BX,hlp.r];done)) ?_
 intro k1 hk1 s1 hi1 T hT;simp at hT;subst hT
 have hcl:=gc (TW d.A4[k0]) a k1
 repeat' (first|refine GO ?_|(refine Two.mk ?_ ?_<;>intro hb<;>(try simp at hb)<;>(try norm_cast at hb)<;>try replace H:=HN hb H)|(refine RG.mk ?_;(try clear hK hD);first|intro _ K hD hK|intro K hD hK)|(refine RF.mk ?_;intro hr)|(refine LF.mk ?_;(try clear hK hD);first|rfl|(simp[H8,Ay,As,Do,G3,Dx,DP,BZ,BX,hlp.r, *];done)))
 refine W.loopR [1,2,5,6] [2] (fun k2 _=>[(8,dI' k2)]) (fun _ _=>[]) (k0) (fun k2 _=>TR d.A4 k0 d.A4[k0].A5=TQ d.A4 d.A4[k0].A5 k0 k2) (fun S=>()) rfl (by simp) (by first|trivial|rfl|(simp;done)|(simp[H8,Ay,As,Do,G3,Dx,DP,BZ,BX,hlp.r];done)|(simp_all [H8,Ay,As,Do,G3,Dx,DP,BZ,BX,hlp.r];done)) ?_
 intro k2 hk2 s2 hi2 T hT;simp at hT;subst hT
 have hce:a.countP (TW d.A4[k0])=cnt (TW d.A4[k0]) a k1:=(ah (by omega)).symm
 repeat' (first|refine GO ?_|(refine Two.mk ?_ ?_<;>intro hb<;>(try simp at hb)<;>(try norm_cast at hb)<;>try replace H:=HN hb H)|(refine RG.mk ?_;(try clear hK hD);first|intro _ K hD hK|intro K hD hK)|(refine RF.mk ?_;intro hr)|(refine LF.mk ?_;(try clear hK hD);first|rfl|(simp[H8,Ay,As,Do,G3,Dx,DP,BZ,BX,hlp.r, *];done)))
instance li (d:AF) (a:List Ac):Ct cx 290 [.d (SL d),.d (.sl false BL ((a).map (Ac.dd false)))] (True) (dB' (H8 d a)):=⟨fk1 func290,fun hp h=>by have q:=ju d a h;first|exact q|simpa using q⟩
def zAr:Ac:=⟨⟨#[]⟩,[],zX⟩
def TX (e:AG):Ac:=(e.Af[0]?).getD zAr
def ctC (w:A1) (s:BA'):AA:=((ctR w s).1.A4[(ctR w s).2.1]?).getD ⟨⟨#[]⟩,[]⟩
theorem Ma {e:AG} (h:¬e.Af=[]):e.Af[0]? =some (TX e):=by
 unfold TX;cases hq:e.Af with
 |nil=>exact absurd hq h
 |cons a l=>rfl
theorem MZ {e:AG} (h:¬e.Af=[]):0<e.Af.length:=List.length_pos_iff.2 h
theorem PW {w:A1} {V:List Nat} {s:BA'} (h:ctV w V s=true):(ctR w s).1.A4[(ctR w s).2.1]? =some (ctC w s):=by
 unfold ctC;rw[List.getElem?_eq_getElem (PV h)];rfl
theorem Kb (w:A1) (V:List Nat) (e:AG):FQ w V e=
 if e.AH=4 then (if fnV w V e.A5 && decide ((fnR w e.A5).1.Am.length=e.AB.length) then (0:Int) else 9)
 else if e.AH=5 then (if trV w V e.AK then (if (siR (trR w e.AK).1 e.A5).2.2 && decide ((siR (trR w e.AK).1 e.A5).1.Am.length+1=e.AB.length) then (0:Int) else 6) else 3)
 else if e.AH=6 then (if ctV w V e.A5 then (if (ctC w e.A5).Av.length=e.AB.length then (0:Int) else 2) else 1)
 else if e.AH=7 then (if e.Af=[] then (1:Int) else (if ctV w V (TX e).AZ then (if Jr (ctR w (TX e).AZ).1 e.Af then (0:Int) else 2) else 1))
 else if e.AH=11 then ckD w V e.AK
 else if e.AH=12 then ckT w V e.AM
 else 0:=by
 rw[Tl]
 have h6:(if ctV w V e.A5 then (if (((ctR w e.A5).1.A4[(ctR w e.A5).2.1]?).map fun c=>c.Av.length)=some e.AB.length then (0:Int) else 2) else 1)=(if ctV w V e.A5 then (if (ctC w e.A5).Av.length=e.AB.length then (0:Int) else 2) else 1):=by
  by_cases h:ctV w V e.A5=true
  ·rw[if_pos h,if_pos h,PW h];simp
  ·rw[if_neg h,if_neg h]
 have h7:(if h:0<e.Af.length then (if ctV w V e.Af[0].AZ then (if Jr (ctR w e.Af[0].AZ).1 e.Af then (0:Int) else 2) else 1) else 1:Int)=(if e.Af=[] then (1:Int) else (if ctV w V (TX e).AZ then (if Jr (ctR w (TX e).AZ).1 e.Af then (0:Int) else 2) else 1)):=by
  by_cases h:e.Af=[]
  ·simp[h]
  ·have h1:=MZ h
   have h2:=Ma h
   rw[List.getElem?_eq_getElem h1] at h2
   have h3:=Option.some.inj h2
   rw[dif_pos h1,if_neg h,h3]
 rw[h6,h7]
def r0 (w:A1) (i:Nat) (p:A8) (k:Nat):List AO:=fl (feT w i) p.Aj k
theorem cG {w:A1} {i:Nat} {p:A8} {k:Nat} (h:k<p.Aj.length):r0 w i p (k+1)=r0 w i p k++feT w i p.Aj[k]:=by
 unfold r0;rw[G8 h]
theorem cH (w:A1) (i:Nat) (p:A8) (k:Nat):(r0 w i p k).length≤p.sz:=by
 have hk:=RU (f:=feT w i) (fun x=>DO _ _ _ _) p.Aj k
 have hz:=p.sz_eq;unfold szs at hz
 unfold r0;omega
def r1 (w:A1) (i:Nat) (p:A8) (k:Nat):List AO:=fa (feT w i) p.Aj++fl (feD w i) p.AE k
theorem cE {w:A1} {i:Nat} {p:A8} {k:Nat} (h:k<p.AE.length):r1 w i p (k+1)=r1 w i p k++feD w i p.AE[k]:=by
 unfold r1;rw[G8 h];simp only[List.append_assoc]
theorem cF (w:A1) (i:Nat) (p:A8) (k:Nat):(r1 w i p k).length≤p.sz:=by
 have h0:=Jt (f:=feT w i) (fun x=>DO _ _ _ _) p.Aj
 have hk:=RU (f:=feD w i) (fun x=>DO _ _ _ _) p.AE k
 have hz:=p.sz_eq;unfold szs at hz
 unfold r1;simp only[List.length_append];omega
def r2 (w:A1) (i:Nat) (p:A8) (k:Nat):List AO:=fa (feT w i) p.Aj++fa (feD w i) p.AE++fl (feI w i) p.AQ k
theorem cC {w:A1} {i:Nat} {p:A8} {k:Nat} (h:k<p.AQ.length):r2 w i p (k+1)=r2 w i p k++feI w i p.AQ[k]:=by
 unfold r2;rw[G8 h];simp only[List.append_assoc]
theorem cD (w:A1) (i:Nat) (p:A8) (k:Nat):(r2 w i p k).length≤p.sz:=by
 have h0:=Jt (f:=feT w i) (fun x=>DO _ _ _ _) p.Aj
 have h1:=Jt (f:=feD w i) (fun x=>DO _ _ _ _) p.AE
 have hk:=RU (f:=feI w i) (fun x=>DO _ _ _ _) p.AQ k
 have hz:=p.sz_eq;unfold szs at hz
 unfold r2;simp only[List.length_append];omega
def r3 (w:A1) (i:Nat) (p:A8) (k:Nat):List AO:=fa (feT w i) p.Aj++fa (feD w i) p.AE++fa (feI w i) p.AQ++fl (feF w i) p.Ad k
theorem cA {w:A1} {i:Nat} {p:A8} {k:Nat} (h:k<p.Ad.length):r3 w i p (k+1)=r3 w i p k++feF w i p.Ad[k]:=by
 unfold r3;rw[G8 h];simp only[List.append_assoc]
theorem cB (w:A1) (i:Nat) (p:A8) (k:Nat):(r3 w i p k).length≤p.sz:=by
 have h0:=Jt (f:=feT w i) (fun x=>DO _ _ _ _) p.Aj
 have h1:=Jt (f:=feD w i) (fun x=>DO _ _ _ _) p.AE
 have h2:=Jt (f:=feI w i) (fun x=>DO _ _ _ _) p.AQ
 have hk:=RU (f:=feF w i) (fun x=>DO _ _ _ _) p.Ad k
 have hz:=p.sz_eq;unfold szs at hz
 unfold r3;simp only[List.length_append];omega
theorem Il (w:A1) (i:Nat) (p:A8):r0 w i p 0=[]:=rfl
theorem V7 {w:A1} {i:Nat} {p:A8} {k:Nat} (h:p.Aj.length≤k):r0 w i p k=r1 w i p 0:=by
 unfold r0 r1;rw[EZ h,H7,List.append_nil]
theorem V6 {w:A1} {i:Nat} {p:A8} {k:Nat} (h:p.AE.length≤k):r1 w i p k=r2 w i p 0:=by
 unfold r1 r2;rw[EZ h,H7,List.append_nil]
theorem V5 {w:A1} {i:Nat} {p:A8} {k:Nat} (h:p.AQ.length≤k):r2 w i p k=r3 w i p 0:=by
 unfold r2 r3;rw[EZ h,H7,List.append_nil]
theorem V4 {w:A1} {i:Nat} {p:A8} {k:Nat} (h:p.Ad.length≤k):r3 w i p k=feP w i p:=by
 unfold r3 feP;rw[EZ h]
instance g13V1 (k:Int) (n:BA') (l:List A0) (s:BA'):Ct cx 278 [.d (uK k n l),.d (.sl false .one [.lf (.string s)])] (A0.sz ⟨k,n,l⟩≤134217728) (dB' (Bl ⟨k,n,l⟩ [s])):=⟨(RP k n l [s]).ok,fun hp h=>by have q:=(RP k n l [s]).cs hp h;first|exact q|simpa using q⟩
instance g13A1 (l:List A0) (s:BA'):Ct cx 277 [.d (.sl false Ai ((l).map (A0.dd false))),.d (.sl false .one [.lf (.string s)])] (∀y∈l,y.sz≤134217728) (dB' (En l [s])):=⟨(W5 l [s]).ok,fun hp h=>by have q:=(W5 l [s]).cs hp h;first|exact q|simpa using q⟩
instance pP (x:AC):Ct cx 276 [.d (KR x)] (x.sz≤134217728) (dB' (FD x)):=by
 refine Xi func276 59 [.tmp 2] [] [] AN (AI @FD.eq_1<|@QQ.eq_1) ?_;intro hp h M G H E
 have hx:=x.sz_eq;unfold szs at hx
 have hsp:∀y∈x.Am,y.sz≤134217728:=fun y hy=>by have:=Ae A0.sz hy;omega
 replace H:=AI hsp H
 have hw:=BH (n:=(x.Am.length:Int)+1) (by omega) (by omega);replace H:=AI hw H
 all_goals exact GA1
def pNm (l:List AX):List BA':=l.map AX.A5
def pTy (l:List AX):List A0:=l.map AX.AM
theorem ek (l:List AX):l.map AX.A5=pNm l:=rfl
theorem ej (l:List AX):l.map AX.AM=pTy l:=rfl
theorem VG (l:List AX) (hl:l.length≤134217728) (h:HP):CS cx.P 231 [.d (.sl false CZ (l.map (AX.dd false)))] h (.d (.sl true .one ((pNm l).map dS))) h:=by
 refine Ze func231 rfl 20 ?_
 refine Zw ?_
 refine Zw ?_
 refine W.seq ?_
 refine Zw ?_
 refine W.block ?_
 refine W.loopk [7,8] [] (fun k0=>[(9,dI' k0),(3,.d (.sl true .one ((Ep l AX.A5 k0).map dS)))]) (fun _=>[]) l.length rfl (by simp[Hi]) fun k0 hk0 T hT=> ?_
 simp at hT;subst hT
 have hl0:=Ff AX.A5 hk0
 apply Zr;intros
 refine Zo ?_ (by simp[hl0]<;>omega);simp[hl0]
 exact Zx
 refine Zv rfl ?_ ?_<;>intro hb0<;>try simp at hb0
 have hx:=B2 hb0 (by omega)
 refine W.skip ?_
 refine Zb ?_
 apply Zr;intros
 refine Zo ?_ (by simp[hl0,hb0,hx]<;>omega);simp[hl0,hb0,hx]
 refine Zm [12] ?_ (by simp[hl0,hb0,hx]<;>omega);simp[hl0,hb0,hx]
 iterate 2 (refine Zo ?_ (by simp[hl0,hb0,hx]<;>omega);simp[hl0,hb0,hx])
 exact Zx
 apply Zs;intros
 refine Zm [13] ?_ (by simp[hl0,hb0,hx]<;>omega);simp[hl0,hb0,hx]
 iterate 5 (refine Zo ?_ (by simp[hl0,hb0,hx]<;>omega);simp[hl0,hb0,hx])
 exact Zx
 apply Zs;intros
 iterate 2 (refine Zo ?_ (by simp[hl0,hb0,hx]<;>omega);simp[hl0,hb0,hx])
 exact Zx
 refine⟨hb0,Wz.to rfl rfl rfl ?_⟩
 have hs:=Hj AX.A5 hb0
 simp[hs]
 have hkl:k0=l.length:=by omega
 subst hkl
 have hres:=(Eo l AX.A5).trans (ek l)
 refine W.exit ?_
 apply Zr;intros
 refine Zm [19] ?_ (by simp[hl0]<;>omega);simp[hl0]
 refine Zo ?_ (by simp[hl0]<;>omega);simp[hl0]
 exact Zx
 refine W.ret (Zq ?_)
 simp[f231,hres]
def tyK (l:List AX) (k:Nat):List A0:=(l.take k).map AX.AM
theorem UA (l:List AX):tyK l 0=[]:=rfl
theorem UC (l:List AX):tyK l l.length=l.map AX.AM:=by unfold tyK;rw[List.take_length]
theorem YH {l:List AX} {k:Nat} (h:k≤l.length):(tyK l k).length=k:=by unfold tyK;simp;omega
theorem UB {l:List AX} {k:Nat} (h:k<l.length):(tyK l k).map (A0.dd false)++[l[k].AM.dd false]=(tyK l (k+1)).map (A0.dd false):=by
 unfold tyK
 rw[Y' h,List.map_append,List.map_append];rfl
theorem VF (l:List AX) (hl:l.length≤134217728) (h:HP):CS cx.P 96 [.d (.sl false CZ (l.map (AX.dd false)))] h (.d (.sl true Ai ((pTy l).map (A0.dd false)))) h:=by
 refine Ze func96 rfl 20 ?_
 refine Zw ?_
 refine Zw ?_
 refine W.seq ?_
 refine Zw ?_
 refine W.block ?_
 refine W.loopk [7,8] [] (fun k0=>[(9,dI' k0),(3,.d (.sl true Ai ((tyK l k0).map (A0.dd false))))]) (fun _=>[]) l.length rfl (by simp[UA]) fun k0 hk0 T hT=> ?_
 simp at hT;subst hT
 have hl0:=YH hk0
 apply Zr;intros
 refine Zo ?_ (by simp[hl0]<;>omega);simp[hl0]
 exact Zx
 refine Zv rfl ?_ ?_<;>intro hb0<;>try simp at hb0
 have hx:=B2 hb0 (by omega)
 refine W.skip ?_
 refine Zb ?_
 apply Zr;intros
 refine Zo ?_ (by simp[hl0,hb0,hx]<;>omega);simp[hl0,hb0,hx]
 refine Zm [12] ?_ (by simp[hl0,hb0,hx]<;>omega);simp[hl0,hb0,hx]
 iterate 2 (refine Zo ?_ (by simp[hl0,hb0,hx]<;>omega);simp[hl0,hb0,hx])
 exact Zx
 apply Zs;intros
 refine Zm [13] ?_ (by simp[hl0,hb0,hx]<;>omega);simp[hl0,hb0,hx]
 refine Zo ?_ (by simp[hl0,hb0,hx]<;>omega);simp[hl0,hb0,hx]
 refine Zm [15] ?_ (by simp[hl0,hb0,hx]<;>omega);simp[hl0,hb0,hx]
 iterate 3 (refine Zo ?_ (by simp[hl0,hb0,hx]<;>omega);simp[hl0,hb0,hx])
 exact Zx
 apply Zs;intros
 iterate 2 (refine Zo ?_ (by simp[hl0,hb0,hx]<;>omega);simp[hl0,hb0,hx])
 exact Zx
 refine⟨hb0,Wz.to rfl rfl rfl ?_⟩
 have hs:=UB hb0
 simp at hs
 simp[hs]
 have hkl:k0=l.length:=by omega
 subst hkl
 have hres:=(UC l).trans (ej l)
 refine W.exit ?_
 apply Zr;intros
 refine Zm [19] ?_ (by simp[hl0]<;>omega);simp[hl0]
 refine Zo ?_ (by simp[hl0]<;>omega);simp[hl0]
 exact Zx
 refine W.ret (Zq ?_)
 simp[f96,hres]
theorem M8 (c:Int) (i:Nat) (k s:BA') (o:List AO) (ho:o.length≤1073741824) (lv kk:Nat) (h:HP) (hcap:hpg h lv kk=some (.d (.sl true E8 ((o).map (AO.dd true))))):CS cx.P 35 [dI' c,dS' k,dS' s,.pt lv kk [],.el (.lf (.int .i64 (i:Int)))] h (.tp []) (hps h lv kk (some (.d (.sl true E8 (((o++feA c i k s)).map (AO.dd true)))))):=by
 have hc2:=Dh hcap
 have hc3:∀x:DD,hpg (upH (hps h lv kk (some (.d x)))) lv kk=some (.d x):=fun x=>Dh (Et hcap)
 refine Ze func35 rfl 18 ?_
 apply Zr;intros
 iterate 2 (refine Zo ?_ (by simp[hc2,hc3]<;>omega);simp[hc2,hc3])
 exact Zx
 refine Zc rfl ?_ ?_<;>intro hb0<;>try simp at hb0
 have ht:feA c i k s=[⟨c,i,k,s⟩]:=by simp[feA,hb0]
 have hsm:True:=trivial
 apply Zs;intros
 refine Zm [10] ?_ (by simp[hc2,hc3]<;>omega);simp[hc2,hc3]
 iterate 8 (refine Zo ?_ (by simp[hc2,hc3]<;>omega);simp[hc2,hc3])
 exact Zx
 refine⟨.inl rfl,⟨_,congrArg (List.cons _) (by simp[ht,hsm])⟩,?_⟩
 simp[f35,ht]
 have ht:feA c i k s=[]:=by simp[feA,hb0]
 have hsm:=ED _ _ _ _ hcap
 refine W.skip ?_
 refine⟨.inl rfl,⟨_,congrArg (List.cons _) (by simp[ht,hsm])⟩,?_⟩
 simp[f35,ht]
instance iXe (w:A1) (v:List Nat) (e:AG):Ct cx 158 [.d (.st [Au w,.sl false .one (v.map dN)]),.d (IM e)] (w.sz≤134217728) (dI' (FQ w v e)):=by
 refine Xi func158 130 [.tmp 4] [] [] AN (@Kb) ?_;intro hp h M G H E
 have hct:=fun s=>@PV w v s;have hcc:=fun s=>@PW w v s;have ha0:=@Ma e;have ha1:=@MZ e;replace H:=AI hct (AI hcc (AI ha0 (AI ha1 H)))
 have hcl:=fun s=>gY w s
 have htz:=EV w
 have hsw:∀a b,IntKind.i64.wrap (((siR (trR w a).1 b).1.Am.length:Int)+1)=((siR (trR w a).1 b).1.Am.length:Int)+1:=fun a b=>QD (by have:=EV w a;omega) b;replace H:=AI hsw H
 all_goals exact GA1
