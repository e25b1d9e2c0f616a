/- Part 42. No condition. -/
import Derived.Test.YtdooklofebdknaaGreatM41
namespace Go.Proofs.YtdooklofebdknaaGreat
open Go.RowKit Tryz
set_option linter.unusedVariables false
set_option maxRecDepth 10000
set_option linter.unusedSimpArgs false
set_option maxHeartbeats 4000000
def fl {α β:Type} (f:α→List β) (l:List α) (k:Nat):List β:=(l.take k).flatMap f
theorem Gy {α β:Type} (f:α→List β) (l:List α):fl f l 0=[]:=rfl
theorem G5 {α β:Type} {f:α→List β} {l:List α} {k:Nat} (h:k<l.length):fl f l (k+1)=fl f l k++f l[k]:=by
 unfold fl;rw[Y' h,List.flatMap_append];simp
def fa {α β:Type} (f:α→List β) (l:List α):List β:=l.flatMap f
theorem EX {α β:Type} {f:α→List β} {l:List α} {k:Nat} (h:l.length≤k):fl f l k=fa f l:=by
 unfold fl fa;rw[List.take_of_length_le h]
theorem JX {α β:Type} {f:α→List β} (h:∀x,(f x).length≤1):∀l:List α,(l.flatMap f).length≤l.length
 |[]=>Nat.le_refl _
 |x::l=>by have:=JX h l;have:=h x;simp only[List.flatMap_cons,List.length_append,List.length_cons];omega
theorem Ja {α β:Type} {f:α→List β} (h:∀x,(f x).length≤1) (l:List α):(fa f l).length≤l.length:=JX h l
theorem Qw {α β:Type} {f:α→List β} (h:∀x,(f x).length≤1) (l:List α) (k:Nat):(fl f l k).length≤l.length:=by
 have h1:=JX h (l.take k);have h2:=List.length_take_le' k l;unfold fl;omega
def feA (c:Int) (i:Nat) (k s:ByteArray):List AP:=if c=0 then [] else [⟨c,i,k,s⟩]
theorem DN (c:Int) (i:Nat) (k s:ByteArray):(feA c i k s).length≤1:=by unfold feA;split<;>simp
def kTr:ByteArray:=⟨#[116,114,97,105,116]⟩
def kDa:ByteArray:=⟨#[100,97,116,97]⟩
def kIn:ByteArray:=⟨#[105,110,115,116]⟩
def kFn:ByteArray:=⟨#[102,110]⟩
def feT (w:A1) (i:Nat) (t:AS):List AP:=feA (FA w (vis w i) t) i kTr t.A6
def feD (w:A1) (i:Nat) (t:AF):List AP:=feA (Fl w (vis w i) t) i kDa t.A6
def feI (w:A1) (i:Nat) (t:AJ):List AP:=feA (Hq w (vis w i) t) i kIn t.AK
def feF (w:A1) (i:Nat) (t:AL):List AP:=feA (So w (vis w i) t) i kFn t.A6
def feP (w:A1) (i:Nat) (p:A8):List AP:=fa (feT w i) p.Ai++fa (feD w i) p.AE++fa (feI w i) p.AO++fa (feF w i) p.Ac
def pkE (w:A1) (i:Nat):List AP:=match w.A2[i]? with
 |some p=>feP w i p
 |none=>[]
theorem Od {w:A1} {i:Nat} (h:i<w.A2.length):pkE w i=feP w i w.A2[i]:=by
 unfold pkE;rw[List.getElem?_eq_getElem h]
def feK (w:A1) (k:Nat):List AP:=(List.range k).flatMap (pkE w)
theorem JZ (w:A1):feK w 0=[]:=rfl
theorem Lt (w:A1) (k:Nat):feK w (k+1)=feK w k++pkE w k:=by
 unfold feK;rw[List.range_succ,List.flatMap_append];simp
def Cj:AP:=⟨8,0,⟨#[]⟩,⟨#[]⟩⟩
def feE (w:A1):List AP:=if Nw DR w then feK w w.A2.length++(if uq w.A2 then [] else [Cj]) else [Cj]
theorem eN (w:A1) (i:Nat) (p:A8):(feP w i p).length≤p.sz:=by
 have h1:=JX (f:=feT w i) (fun x=>DN _ _ _ _) p.Ai
 have h2:=JX (f:=feD w i) (fun x=>DN _ _ _ _) p.AE
 have h3:=JX (f:=feI w i) (fun x=>DN _ _ _ _) p.AO
 have h4:=JX (f:=feF w i) (fun x=>DN _ _ _ _) p.Ac
 have h5:=p.sz_eq
 unfold szs at h5
 unfold feP fa;simp only[List.length_append];omega
theorem Vc (w:A1):∀k,k≤w.A2.length→(feK w k).length≤szL A8.sz (w.A2.take k)
 |0,_=>Nat.zero_le _
 |k+1,h=>by
  have h1:=Vc w k (by omega)
  have hk:k<w.A2.length:=by omega
  rw[Lt,Od hk,List.length_append,Y' hk,Gb]
  have h2:=eN w k w.A2[k]
  simp only[szL];omega
theorem Ov (w:A1) {k:Nat} (h:k≤w.A2.length):(feK w k).length≤w.sz:=by
 have h1:=Vc w k h
 have h2:=E5 A8.sz w.A2 k
 have h3:=w.sz_eq
 unfold szs at h3
 omega
theorem eO {w:A1} {k:Nat} (h:k<w.A2.length):(feK w k).length+(pkE w k).length≤w.sz:=by
 have:=Ov w (k:=k+1) h
 rw[Lt,List.length_append] at this;exact this
def suF (w:A1) (V:List Nat) (s:ByteArray):Int:=if trV w V s then (if (trR w s).1.CP then 7 else 0) else 3
def sgF (w:A1) (V:List Nat) (g:AC):Int:=or0 (fc (ckT w V) g.Al) (or0 (ckT w V g.B8) (if g.BR then ckE w V g.Aa else 0))
def paF (w:A1) (V:List Nat) (p:AW):Int:=ckT w V p.AM
def meF (w:A1) (V:List Nat) (m:AX):Int:=ckE w V m.Aa
def amF (w:A1) (V:List Nat) (a:Ab):Int:=ckE w V a.Aa
theorem Jm (w:A1) (V:List Nat) (t:AS):FA w V t=or0 (fc (suF w V) t.Ao) (fc (sgF w V) t.AU):=rfl
theorem M4 (w:A1) (V:List Nat) (f:AL):So w V f=or0 (fc (ckB w V) f.Af) (or0 (fc (paF w V) f.Al) (or0 (ckT w V f.B8) (ckE w V f.Aa))):=rfl
theorem Et (w:A1) (V:List Nat) (x:AJ):Hq w V x=
 if trV w V x.AK then (if (trR w x.AK).1.CP then 7 else
  or0 (ckT w V x.Ar) (or0 (fc (ckB w V) x.Af) (or0 (if x.BS=(trR w x.AK).1.B3 then (if x.BS then ckT w V x.B3 else 0) else 4) (or0 (if Cv (trR w x.AK).1 x then 0 else 6) (fc (meF w V) x.Ap))))) else 3:=rfl
theorem CI (w:A1) (V:List Nat) (e:AG):ckE w V e=or0 (FN w V e) (or0 (fc (ckE w V) e.AB) (fc (amF w V) e.Ad)):=by
 rw[f9];unfold or0 amF;by_cases h:FN w V e=0<;>simp[h]
theorem J8 (a b c:Int):or0 (or0 a b) c=or0 a (or0 b c):=by unfold or0;by_cases h:a=0<;>simp[h]
theorem FC (a:Int):or0 a 0=a:=by unfold or0;by_cases h:a=0<;>simp[h]
theorem E8 (a:Int):or0 0 a=a:=by simp[or0]
theorem D0 {a b:Int} (h:¬a=0):or0 a b=a:=by simp[or0,h]
theorem TB (w:A1) (V:List Nat) (e:AG):FN w V e=
 if e.AH=4 then (if fnV w V e.A6 && decide ((fnR w e.A6).1.Al.length=e.AB.length) then (0:Int) else 9)
 else if e.AH=5 then (if trV w V e.AK then (if (siR (trR w e.AK).1 e.A6).2.2 && decide ((siR (trR w e.AK).1 e.A6).1.Al.length+1=e.AB.length) then (0:Int) else 6) else 3)
 else if e.AH=6 then (if ctV w V e.A6 then (if (((ctR w e.A6).1.A4[(ctR w e.A6).2.1]?).map fun c=>c.At.length)=some e.AB.length then (0:Int) else 2) else 1)
 else if e.AH=7 then (if h:0<e.Ad.length then (if ctV w V e.Ad[0].AY then (if JY (ctR w e.Ad[0].AY).1 e.Ad then (0:Int) else 2) else 1) else 1:Int)
 else if e.AH=11 then ckD w V e.AK
 else if e.AH=12 then ckT w V e.AM
 else 0:=by
 unfold FN
 have : (match e.Ad with
  |[]=>(1:Int)
  |a::_=>if ctV w V a.AY then (if JY (ctR w a.AY).1 e.Ad then 0 else 2) else 1)=if h:0<e.Ad.length then (if ctV w V e.Ad[0].AY then (if JY (ctR w e.Ad[0].AY).1 e.Ad then 0 else 2) else 1) else 1:=by
  cases e.Ad<;>simp
 rw[←this];rfl
theorem eu {w:A1} {s:ByteArray} (h:(ctR w s).2.2=true):(ctR w s).2.1<(ctR w s).1.A4.length:=by
 unfold ctR at h ⊢
 cases hq:fs (ctH s) 0 w.A2 with
 |none=>rw[hq] at h;simp[DW] at h
 |some x=>
  obtain⟨p,hp,j,h1⟩:=Dk hq
  obtain⟨d,hd,k,h2⟩:=Dk h1
  obtain⟨n,hn,h3, -⟩:=Lr h2
  unfold ctF at h3
  split at h3
  ·cases h3;simpa[DW] using hn
  ·cases h3
theorem P5 {w:A1} {V:List Nat} {s:ByteArray} (h:ctV w V s=true):(ctR w s).2.1<(ctR w s).1.A4.length:=by
 unfold ctV at h;simp only[Bool.and_eq_true] at h;exact eu h.1
theorem Tu {l:List AG} {k:Nat} (h:k<l.length):szX l[k]≤EF l:=by
 induction l generalizing k with
 |nil=>simp at h
 |cons x l ih=>
  cases k with
  |zero=>simp[EF]
  |succ k=>have:=ih (k:=k) (by simpa using h);simp only[EF,List.getElem_cons_succ];omega
theorem Tv {l:List Ab} {k:Nat} (h:k<l.length):szX l[k].Aa≤EU l:=by
 induction l generalizing k with
 |nil=>simp at h
 |cons x l ih=>
  cases k with
  |zero=>obtain⟨a,b,c⟩:=x;simp[EU,K8]
  |succ k=>have:=ih (k:=k) (by simpa using h);simp only[EU,List.getElem_cons_succ];omega
theorem Ph {x:AG} {k:Nat} (h:k<x.AB.length):szX x.AB[k]<szX x:=by
 obtain⟨a,b,c,d,e,f,g⟩:=x
 have:=Tu h;simp only[szX] at this ⊢;omega
theorem Pi {x:AG} {k:Nat} (h:k<x.Ad.length):szX x.Ad[k].Aa<szX x:=by
 obtain⟨a,b,c,d,e,f,g⟩:=x
 have:=Tv h;simp only[szX] at this ⊢;omega
def nmL {α:Type} (f:α→ByteArray) (l:List α):List ByteArray:=l.map f
theorem YI {α:Type} (f:α→ByteArray) (l:List α):(nmL f l).length=l.length:=List.length_map ..
def dpF (w:A1) (i:Nat) (p:A8):Bool:=DR p && Vz w i p
def dpD (w:A1) (i:Nat) (d:ByteArray):Bool:=Ay (pIx w d) 0 ((i:Int) - 1)
theorem Nv (w:A1):Nw DR w=((fs (bad (dpF w)) 0 w.A2).isNone && decide (w.A2.length≤5)):=rfl
theorem ei (w:A1) (i:Nat) (p:A8):dpF w i p=(DR p && (decide (pIx w p.A6=(i:Int)) && p.BZ.all (dpD w i))):=rfl
def dpI (w:A1) (i:Nat) (p:A8):Bool:=DR p && ZK w i p
theorem Nu (w:A1):I7 DR w=((fs (bad (dpI w)) 0 w.A2).isNone && (decide (w.A2.length≤5) && dst (nmL A8.A6 w.A2))):=rfl
theorem BX {α:Type}:(none:Option α).isNone=true:=rfl
theorem BW {α:Type} (x:α):(some x).isNone=false:=rfl
instance:DecidableEq A3:=fun x y=>decidable_of_iff (x.BI=y.BI∧x.fAt=y.fAt) (by cases x;cases y;simp)
def bds:List ByteArray→List A0→List A5
 |v::l,t::m=>⟨v,t⟩::bds l m
 |_,_=>[]
def bdK (l:List ByteArray) (m:List A0) (k:Nat):List A5:=bds (l.take k) (m.take k)
theorem OC (l:List ByteArray) (m:List A0):bdK l m 0=[]:=by simp[bdK,bds]
theorem RK:∀(a:List ByteArray) (b:List A0) (v:ByteArray) (t:A0),a.length=b.length→bds (a++[v]) (b++[t])=bds a b++[⟨v,t⟩]
 |[],[],_,_,_=>rfl
 |x::a,y::b,v,t,h=>by simp only[List.cons_append,bds,RK a b v t (by simpa using h)]
 |[],_::_,_,_,h=>by simp at h
 |_::_,[],_,_,h=>by simp at h
theorem Wb {l:List ByteArray} {m:List A0} {k:Nat} (h:k<l.length) (hm:k<m.length):bdK l m (k+1)=bdK l m k++[⟨l[k],m[k]⟩]:=by
 unfold bdK
 rw[Y' h,Y' hm,RK _ _ _ _ (by simp;omega)]
theorem M9:∀(l:List ByteArray) (m:List A0) (k:Nat),min l.length m.length≤k→bds (l.take k) (m.take k)=bds l m
 |[],m,k,_=>by simp[bds]
 |x::l,[],k,_=>by cases k<;>simp[bds]
 |x::l,y::m,0,h=>by simp at h
 |x::l,y::m,k+1,h=>by simp only[List.take_succ_cons,bds];rw[M9 l m k (by simp at h;omega)]
theorem Zp {l:List ByteArray} {m:List A0} {k:Nat} (h:l.length≤k∨m.length≤k):bdK l m k=bds l m:=M9 l m k (by omega)
theorem RM (l:List ByteArray) (m:List A0) (k:Nat):(bdK l m k).length≤k:=by
 have:∀(a:List ByteArray) (b:List A0),(bds a b).length≤a.length:=by
  intro a
  induction a with
  |nil=>intro b;simp[bds]
  |cons x a ih=>intro b;cases b with
   |nil=>simp[bds]
   |cons y b=>have:=ih b;simp only[bds,List.length_cons];omega
 have:=this (l.take k) (m.take k)
 unfold bdK;simp only[List.length_take] at this;omega
theorem MA:∀{l:List ByteArray} {m:List A0} {b:A5},b∈bds l m→b.AM∈m
 |[],m,b,h=>by simp[bds] at h
 |_::_,[],b,h=>by simp[bds] at h
 |v::l,t::m,b,h=>by
  simp only[bds,List.mem_cons] at h
  rcases h with rfl|h
  ·simp
  ·exact List.mem_cons_of_mem _ (MA h)
mutual
def nb:A0→Prop
 |⟨k,n,l⟩=>(k=2→Cp n=true→l=[])∧nbs l
def nbs:List A0→Prop
 |[]=>True
 |x::l=>nb x∧nbs l
end
theorem QO:∀{l:List A0},nbs l→∀x∈l,nb x
 |y::l,h,x,hx=>by
  simp only[nbs] at h
  rcases List.mem_cons.1 hx with rfl|hx
  ·exact h.1
  ·exact QO h.2 x hx
theorem YM {x:A0} (h:nb x):∀y∈x.AB,nb y:=by cases x;simp only[nb] at h;exact QO h.2
theorem YL {x:A0} (h:nb x) (hk:x.AH=2) (hb:Cp x.A6=true):x.AB=[]:=by cases x;simp only[nb] at h;exact h.1 hk hb
mutual
theorem aq {s:List A5} (h:∀b∈s,nb b.AM):∀{t:A0},nb t→nb (ap s t)
 |⟨k,n,l⟩,ht=>by
  simp only[nb] at ht
  rw[ap]
  split
  ·rename_i u hu
   split at hu
   ·obtain⟨b,h1, -,h3⟩:=F5 hu
    rw[←h3];exact h b h1
   ·cases hu
  ·simp only[nb]
   refine⟨fun hk hb=> ?_,Us h ht.2⟩
   rw[ht.1 hk hb];rfl
theorem Us {s:List A5} (h:∀b∈s,nb b.AM):∀{l:List A0},nbs l→nbs (aps s l)
 |[],_=>trivial
 |x::l,hl=>by simp only[nbs] at hl;simp only[aps,nbs];exact⟨aq h hl.1,Us h hl.2⟩
end
structure GU (U:List ByteArray) (x:A0):Prop where
 wd:x.wd
 nb:nb x
 vi:vin U x
theorem GU.args {U:List ByteArray} {x:A0} (h:GU U x):∀y∈x.AB,GU U y:=fun y hy=>⟨Bj h.wd y hy,YM h.nb y hy,Dy (Eb h.vi) y hy⟩
theorem GU.ap {U V:List ByteArray} {s:List A5} {x:A0} (hs:∀b∈s,GU U b.AM) (h:GU V x):GU (U++V) (ap s x):=
 ⟨MP (fun b hb=>(hs b hb).wd) h.wd,aq (fun b hb=>(hs b hb).nb) h.nb,HR (fun b hb=>Dz (fun v hv=>List.mem_append_left _ hv) (hs b hb).vi) (Dz (fun v hv=>List.mem_append_right _ hv) h.vi)⟩
def GT (m:Nat) (x:A0):Prop:=∃U:List ByteArray,U.length≤m∧GU U x
theorem GT.wd {m:Nat} {x:A0} (h:GT m x):x.wd:=by obtain⟨U, -,h⟩:=h;exact h.wd
theorem GT.nb {m:Nat} {x:A0} (h:GT m x):nb x:=by obtain⟨U, -,h⟩:=h;exact h.nb
theorem GT.ap {m:Nat} {V:List ByteArray} {s:List A5} {t x:A0} (ht:GT m t) (hs:∀P:A0→Prop,(∀z,P z→∀y∈z.AB,P y)→P t→∀b∈s,P b.AM) (h:GU V x) (hV:V.length≤3):GT (m+3) (ap s x):=by
 obtain⟨U,h1,h2⟩:=ht
 exact⟨U++V,by simp;omega,GU.ap (hs (GU U) (fun z hz=>hz.args) h2) h⟩
mutual
theorem ax {P:A0→Prop} (hP:∀z,P z→∀y∈z.AB,P y):∀{p t:A0} {s s1:List A5},mtT p t s=some s1→P t→(∀b∈s,P b.AM)→∀b∈s1,P b.AM
 |⟨k,n,l⟩,t,s,s1,h,ht,hs=>by
  simp only[mtT] at h
  split at h
  ·split at h
   ·split at h
    ·cases h;exact hs
    ·cases h
   ·cases h
    intro b hb
    rcases List.mem_append.1 hb with hb|hb
    ·exact hs b hb
    ·simp only[List.mem_singleton] at hb;subst hb;exact ht
  ·split at h
   ·exact Ut hP h (hP t ht) hs
   ·cases h
theorem Ut {P:A0→Prop} (hP:∀z,P z→∀y∈z.AB,P y):∀{l m:List A0} {s s1:List A5},DI l m s=some s1→(∀y∈m,P y)→(∀b∈s,P b.AM)→∀b∈s1,P b.AM
 |x::l,y::m,s,s1,h,hm,hs=>by
  simp only[DI] at h
  cases hq:mtT x y s with
  |none=>rw[hq] at h;cases h
  |some s2=>
   rw[hq] at h
   exact Ut hP h (fun z hz=>hm z (by simp[hz])) (ax hP hq (hm y (by simp)) hs)
 |[],m,s,s1,h,_,hs=>by rw[Eo] at h;cases h;exact hs
 |_::_,[],s,s1,h,_,hs=>by simp[DI] at h;subst h;exact hs
end
theorem aw {p t:A0}:∀P:A0→Prop,(∀z,P z→∀y∈z.AB,P y)→P t→∀b∈(mtc p t).getD [],P b.AM:=fun P hP ht=>by
 cases h:mtc p t with
 |none=>simp
 |some s=>exact ax hP h ht (by simp)
theorem jS {l:List ByteArray} {t:A0}:∀P:A0→Prop,(∀z,P z→∀y∈z.AB,P y)→P t→∀b∈bds l t.AB,P b.AM:=fun P hP ht b hb=>hP t ht _ (MA hb)
structure vP (w:A1):Prop where
 sz:w.sz≤16777216
 da:∀s c f,c∈(daR w s).1.A4→f∈c.At→GU (daR w s).1.AZ f
 dv:∀s,(daR w s).1.AZ.length≤3
 hd:∀o,inR w o→hdS (Am w o).Ar∧GU (Am w o).AZ (Am w o).Ar
 iv:∀o,inR w o→(Am w o).AZ.length≤3
 iw:∀o,inR w o→(Am w o).Af.length≤4∧∀b∈(Am w o).Af,GU (Am w o).AZ b.AM
def fOk (F:List AD):Prop:=F.length≤134217728∧∀a∈F,a.DX.length≤134217728
theorem Ve:∀(F:List AD) (g:A9) (i:Nat),0≤fAj F g i→fAj F g i<(i:Int)+F.length
 |[],g,i,h=>by simp[fAj] at h
 |a::F,g,i,h=>by
  simp only[fAj] at h ⊢
  split
  ·simp;omega
  ·rename_i e
   rw[if_neg e] at h
   have:=Ve F g (i+1) h
   simp only[List.length_cons];omega
theorem Fk {F:List AD} {g:A9} (h:0≤fAi F g):(fAi F g).toNat<F.length∧((fAi F g).toNat:Int)=fAi F g:=by
 have:=Ve F g 0 h
 unfold fAi at*;omega
def zAs:AD:=⟨⟨⟨#[]⟩,zT⟩,0,[]⟩
def fAa (F:List AD) (g:A9):AD:=F.getD (fAi F g).toNat zAs
theorem Lu {F:List AD} {g:A9} {k:Nat} (h:fAi F g=(k:Int)) (hk:k<F.length):fAa F g=F[k]:=by
 unfold fAa;rw[h];simp[List.getD_eq_getElem?_getD,hk]
def Cn (l:List A0) (t:A0):Bool:=l.any fun u=>eqT u t
theorem VQ {l:List A0} {t:A0} {k:Nat} (h:k<l.length):Cn (l.drop k) t=(eqT l[k] t||Cn (l.drop (k+1)) t):=by
 rw[List.drop_eq_getElem_cons h];rfl
theorem Sa {l:List A0} {t:A0} {k:Nat} (h:l.length≤k):Cn (l.drop k) t=false:=by
 rw[List.drop_eq_nil_of_le h];rfl
def daT (w:A1) (t:A0):Bool:=decide (t.AH=2) && ((daR w t.A6).2.2 && decide ((daR w t.A6).1.AZ.length=t.AB.length))
def au (w:A1) (F:List AD) (tr:ByteArray):Nat→A0→List A0→Int
 |0,_,_=>0
 |n+1,t,op=>
  if t.AH=2∧Cp t.A6=true then 0
  else if 0≤fAi F ⟨tr,t⟩ then 0
  else if Cn op t=true then 0
  else if ¬daT w t=true then 1
  else if 30<op.length then 3
  else if 400<szW t then 3
  else fc (fun c:AA=>fc (fun f=>au w F tr n (ap (bds (daR w t.A6).1.AZ t.AB) f) (op++[t])) c.At) (daR w t.A6).1.A4
def auF (w:A1) (F:List AD) (tr:ByteArray) (n:Nat) (t:A0) (op:List A0) (f:A0):Int:=au w F tr n (ap (bds (daR w t.A6).1.AZ t.AB) f) (op++[t])
def auC (w:A1) (F:List AD) (tr:ByteArray) (n:Nat) (t:A0) (op:List A0) (c:AA):Int:=fc (auF w F tr n t op) c.At
theorem Wd (w:A1) (F:List AD) (tr:ByteArray) (n:Nat) (t:A0) (op:List A0):au w F tr (n+1) t op=
  if t.AH=2∧Cp t.A6=true then 0
  else if 0≤fAi F ⟨tr,t⟩ then 0
  else if Cn op t=true then 0
  else if ¬daT w t=true then 1
  else if 30<op.length then 3
  else if 400<szW t then 3
  else fc (auC w F tr n t op) (daR w t.A6).1.A4:=rfl
def cnd (w:A1) (g:A9) (o:A3):Bool:=decide ((Am w o).AK=g.AK) && mtB (Am w o).Ar g.AM
def C0 (w:A1) (g:A9):List A3:=(BD w).filter (cnd w g)
def fiK {α:Type} (p:α→Bool) (l:List α) (k:Nat):List α:=(l.take k).filter p
theorem Va {α:Type} (p:α→Bool) (l:List α):fiK p l 0=[]:=by simp[fiK]
theorem Vb {α:Type} {p:α→Bool} {l:List α} {k:Nat} (h:k<l.length):fiK p l (k+1)=if p l[k]=true then fiK p l k++[l[k]] else fiK p l k:=by
 unfold fiK;rw[Y' h,List.filter_append]
 by_cases e:p l[k]=true<;>simp[e]
theorem Z4 {α:Type} {p:α→Bool} {l:List α} {k:Nat} (h:l.length≤k):fiK p l k=l.filter p:=by unfold fiK;rw[List.take_of_length_le h]
theorem Z3 {α:Type} (p:α→Bool) (l:List α) (k:Nat):(fiK p l k).length≤k:=by
 have h:=List.length_filter_le p (l.take k)
 unfold fiK;simp only[List.length_take] at h;omega
theorem HE {w:A1} {g:A9} {o:A3} (h:o∈C0 w g):inR w o:=Dw (List.mem_filter.1 h).1
theorem O9 (w:A1) (g:A9):(C0 w g).length≤w.sz:=Nat.le_trans (List.length_filter_le _ _) (Dh w)
def beS (w:A1) (o r:A3):Bool:=Gp (Am w r).Ar (Am w o).Ar
def Js (w:A1) (l:List A3) (o:A3):Bool:=l.all fun r=> !beS w o r
def beK (w:A1) (l:List A3) (o:A3) (k:Nat):Bool:=Js w (l.take k) o
theorem WW (w:A1) (l:List A3) (o:A3):beK w l o 0=true:=by simp[beK,Js]
theorem fH (w:A1) {l:List A3} (o:A3) {k:Nat} (h:k<l.length):beK w l o (k+1)=(beK w l o k && !beS w o l[k]):=by
 unfold beK Js;rw[Y' h,List.all_append];simp
theorem Zi (w:A1) {l:List A3} (o:A3) {k:Nat} (h:l.length≤k):beK w l o k=Js w l o:=by unfold beK;rw[List.take_of_length_le h]
theorem WV (w:A1) (l:List A3) (o:A3):Js w l o= !l.any (beS w o):=by
 unfold Js;induction l with
 |nil=>rfl
 |cons x l ih=>simp only[List.all_cons,List.any_cons,ih,Bool.not_or]
def J0 (w:A1) (g:A9):List A3→A3×Int
 |[]=>(⟨0,0⟩,1)
 |o::l=>if Js w (C0 w g) o=true then (if (Am w o).CY=true∧gnd g.AM=false then (⟨0,0⟩,2) else (o,0)) else J0 w g l
def sel (w:A1) (g:A9):A3×Int:=J0 w g (C0 w g)
theorem Q2 (w:A1) (g:A9) {l:List A3} {k:Nat} (h:k<l.length):J0 w g (l.drop k)=if Js w (C0 w g) l[k]=true then (if (Am w l[k]).CY=true∧gnd g.AM=false then (⟨0,0⟩,2) else (l[k],0)) else J0 w g (l.drop (k+1)):=by
 rw[List.drop_eq_getElem_cons h];rfl
theorem Mx (w:A1) (g:A9) {l:List A3} {k:Nat} (h:l.length≤k):J0 w g (l.drop k)=(⟨0,0⟩,1):=by
 rw[List.drop_eq_nil_of_le h];rfl
theorem LN {w:A1} {g:A9}:∀{l:List A3},(J0 w g l).2=0→(J0 w g l).1∈l
 |[],h=>by simp[J0] at h
 |o::l,h=>by
  simp only[J0] at h ⊢
  split
  ·split
   ·rename_i e1 e2;rw[if_pos e1,if_pos e2] at h;simp at h
   ·simp
  ·rename_i e;rw[if_neg e] at h;exact List.mem_cons_of_mem _ (LN h)
theorem UH {w:A1} {g:A9} (h:(sel w g).2=0):inR w (sel w g).1:=HE (LN h)
def whF (s:List A5) (b:A9):A9:=⟨b.AK,ap s b.AM⟩
def whS (w:A1) (o:A3) (g:A9):List A5:=(mtc (Am w o).Ar g.AM).getD []
def inL (w:A1) (f:A9→A7×Int) (g:A9) (o:A3):A7×Int:=
 if fc (fun b=>(f (whF (whS w o g) b)).2) (Am w o).Af=0 then (⟨1,0,o,(Am w o).Af.map fun b=>(f (whF (whS w o g) b)).1⟩,0) else (⟨0,0,⟨0,0⟩,[]⟩,fc (fun b=>(f (whF (whS w o g) b)).2) (Am w o).Af)
def inE (w:A1) (f:A9→A7×Int) (g:A9):A7×Int:=if (sel w g).2=0 then inL w f g (sel w g).1 else (⟨0,0,⟨0,0⟩,[]⟩,(sel w g).2)
def sol (w:A1) (F:List AD):Nat→A9→A7×Int
 |0,g=>if 0≤fAi F g then (apS ⟨2,(fAa F g).Es,⟨0,0⟩,[]⟩ (fAa F g).DX,0) else (⟨0,0,⟨0,0⟩,[]⟩,3)
 |n+1,g=>if 0≤fAi F g then (apS ⟨2,(fAa F g).Es,⟨0,0⟩,[]⟩ (fAa F g).DX,0)
  else if (trR w g.AK).1.CP=true then (if au w F g.AK 32 g.AM []=0 then (⟨5,0,⟨0,0⟩,[]⟩,0) else (⟨0,0,⟨0,0⟩,[]⟩,au w F g.AK 32 g.AM []))
  else if g.AM.AH=1∨g.AM.AH=3 then (⟨0,0,⟨0,0⟩,[]⟩,1)
  else if g.AM.AH=4∧(pth w g.AK 8 g.AM.A6).isSome=true then (apS ⟨4,0,⟨0,0⟩,[]⟩ (((pth w g.AK 8 g.AM.A6).getD []).map fun (n:Nat)=>(n:Int)),0)
  else inE w (sol w F n) g
def spG (x:AJ) (s:ByteArray):A9:=⟨s,x.Ar⟩
noncomputable def spC (w:A1) (o:A3):Int:=fc (fun s=>(sol w (asm w (Am w o).Af) 12 (spG (Am w o) s)).2) (Ak w (Am w o).AK)
def Gu (l:List A3) (o:A3):Bool:=l.any fun x=>decide (x=o)
theorem Ys {l:List A3} {o:A3} {k:Nat} (h:k<l.length):Gu (l.drop k) o=(decide (l[k]=o)||Gu (l.drop (k+1)) o):=by
 rw[List.drop_eq_getElem_cons h];rfl
theorem VR {l:List A3} {o:A3} {k:Nat} (h:l.length≤k):Gu (l.drop k) o=false:=by
 rw[List.drop_eq_nil_of_le h];rfl
noncomputable def coC (w:A1) (o:A3):Int:=
 if ¬Fa w o=true then 1
 else if Gu (over w) o=true then 2
 else if ¬FU (Am w o)=true then 3
 else if ¬EP (Am w o)=true then 4
 else if spC w o=0 then 0 else 5
noncomputable def coS (w:A1) (o:A3):List AR:=if coC w o=0 then [] else [⟨coC w o,o⟩]
noncomputable def M2 (w:A1):List AR:=if Sy w=true then fa (coS w) (BD w) else [⟨6,⟨0,0⟩⟩]
theorem f3 (w:A1) (o:A3):(coS w o).length≤1:=by unfold coS;split<;>simp
theorem QJ (w:A1) {l:List A3} {k:Nat} (h:k<l.length) (e:bdA w l[k] (l.take k)=true):ovK w l (k+1)=ovK w l k++[l[k]]:=by rw[Ui w h,if_pos e]
theorem Uj (w:A1) {l:List A3} {k:Nat} (h:k<l.length) (e:bdA w l[k] (l.take k)=false):ovK w l (k+1)=ovK w l k:=by rw[Ui w h,if_neg (by rw[e];decide)]
theorem Wa (w:A1) (o:A3) {l:List A3} {k j:Nat} (h:j<k) (hl:j<l.length):bdA w o ((l.take k).drop j)=(!ovA (Am w l[j]) (Am w o)||bdA w o ((l.take k).drop (j+1))):=by
 rw[fI w o (by simp;omega),List.getElem_take]
theorem WY {a b c:Bool} (h:a=(!b||c)) (e:b=false):a=true:=by rw[h,e];rfl
theorem WZ {a b c:Bool} (h:a=(!b||c)) (e:b=true):a=c:=by rw[h,e];rfl
theorem GT.mono {m m2:Nat} {x:A0} (h:GT m x) (hm:m≤m2):GT m2 x:=by
 obtain⟨U,h1,h2⟩:=h
 exact⟨U,by omega,h2⟩
theorem GT.tvO {m:Nat} {x:A0} (h:GT m x) (hm:m≤67108864):tvO x []:=by
 obtain⟨U,h1,h2⟩:=h
 exact IM h2.wd (by omega) h2.vi
theorem jE {α:Type} {p:α→Bool} {l:List α} {k:Nat} (h:k<l.length) (e:p l[k]=true):fiK p l (k+1)=fiK p l k++[l[k]]:=by rw[Vb h,if_pos e]
theorem jF {α:Type} {p:α→Bool} {l:List α} {k:Nat} (h:k<l.length) (e:p l[k]=false):fiK p l (k+1)=fiK p l k:=by rw[Vb h,if_neg (by rw[e];decide)]
theorem eL {w:A1} {g:A9} {k:Nat} (h:k<(BD w).length) (e:(Am w (BD w)[k]).AK=g.AK∧mtB (Am w (BD w)[k]).Ar g.AM=true):fiK (cnd w g) (BD w) (k+1)=fiK (cnd w g) (BD w) k++[(BD w)[k]]:=jE h (by unfold cnd;simp[e.1,e.2])
theorem eM {w : A1} {g : A9} {k : Nat} (h : k < (BD w).length) (e : (Am w (BD w)[k]).AK = g.AK → mtB (Am w (BD w)[k]).Ar g.AM = false) : fiK (cnd w g) (BD w) (k + 1) = fiK (cnd w g) (BD w) k := jF h (by
 unfold cnd
 by_cases q:(Am w (BD w)[k]).AK=g.AK
 ·rw[e q];simp
 ·simp[q])
theorem We {w:A1} (hv:vP w) {t f:A0} {c:AA} {m:Nat} (ht:GT m t) (hc:c∈(daR w t.A6).1.A4) (hf:f∈c.At):GT (m+3) (ap (bds (daR w t.A6).1.AZ t.AB) f):=
 ht.ap jS (hv.da _ c f hc hf) (hv.dv _)
theorem WX {l:List ByteArray} {t:A0} (h:t.wd):∀b∈bds l t.AB,b.AM.wd:=fun b hb=>Bj h _ (MA hb)
theorem TG {w:A1} (hv:vP w) {o:A3} (ho:inR w o) {g b:A9} {m:Nat} (ht:GT m g.AM) (hb:b∈(Am w o).Af):GT (m+3) (ap (whS w o g) b.AM):=
 ht.ap aw ((hv.iw o ho).2 b hb) (hv.iv o ho)
theorem TF {w:A1} {o:A3} {g:A9} (h:g.AM.wd):∀b∈whS w o g,b.AM.wd:=aw A0.wd (fun _ hz=>Bj hz) h
theorem FZ (w:A1) (u s:ByteArray):((pth w u 8 s).getD []).length≤8:=by
 cases h:pth w u 8 s with
 |none=>simp
 |some r=>exact IW 8 s r h
theorem Wg (w:A1):∀(l:List A9) (i:Nat),∀a∈asF w i l,a.DX.length≤8
 |[],_,a,h=>by simp[asF] at h
 |b::l,i,a,h=>by
  simp only[asF,List.cons_append,List.mem_cons,List.mem_append,List.mem_map] at h
  rcases h with rfl|⟨u, -,rfl⟩|h
  ·simp
  ·simp only[List.length_map];exact FZ w u b.AK
  ·exact Wg w l (i+1) a h
theorem Wf {w:A1} {l:List A9} (hz:w.sz≤16777216) (hl:l.length≤4):fOk (asm w l):=by
 refine⟨?_,fun a ha=>Nat.le_trans (Wg w l 0 a ha) (by decide)⟩
 have h:=Ig w l l.length (Nat.le_refl _)
 rw[MB (Nat.le_refl _)] at h
 have:l.length*(1+w.sz)≤4*(1+w.sz):=Nat.mul_le_mul_right _ hl
 omega
instance sOvA (a b:AJ):Ct cx 140 [.d (E4 a),.d (E4 b)] (hdS a.Ar∧hdS b.Ar∧a.sz≤134217727∧b.sz≤134217727) (.d (.lf (.bool (ovA a b)))):=by
 refine Xi func140 38 [.tmp 4] [] [] AN (@ovA.eq_1) ?_;intro hp h M G H E
 obtain⟨ho1,ho2,ho3,ho4⟩:=hp;have haz:=a.sz_eq;have hbz:=b.sz_eq;unfold szs at haz hbz;have hz1:a.Ar.sz≤134217727:=(by omega);have hz2:b.Ar.sz≤134217727:=(by omega);replace H:=AI ho1 (AI ho2 (AI hz1 (AI hz2 H)))
 all_goals exact GA1
instance sOver (w:A1):Ct cx 80 [.d (As w)] (vP w) (.d (.sl true Bc (((over w)).map (A3.dd true)))):=by
 refine Xi func80 55 [.tmp 2] [47,54] [] AN (@J6) ?_;intro hp h M G H E
 have hvz:=hp.sz;have hvz2:w.sz≤134217728:=(by omega);have hrl:=Dh w;replace H:=AI hvz2 H
 repeat' (first|(refine IN.mk ?_;intros)|(refine iTw ?_;refine T2 ?_ ?_<;>((try clear H);intro hb H)<;>try (first|exact hb.elim|(exfalso;omega)))|(refine LF.mk ?_;exact LX)|refine GN ?_|(refine XL [1,4] [1] (fun k0 _=>[(5,.d (.lf (.int .i64 (k0:Int)))),(3,.d (.sl true Bc (((ovK w (BD w) k0)).map (A3.dd true))))]) (fun _ _=>[]) ((BD w).length) (fun _ _=>True) rU ?_;intro k0 hk0 s0 hi0;have hol:=LT w (BD w) k0;by_cases hkk:k0<(BD w).length;rotate_left;(have hoe:ovK w (BD w) k0=over w:=(by rw[show k0=(BD w).length by omega];rfl);replace H:=AI hoe H);rotate_left;have hr0:=Dw (gm hkk);have hd0:=(hp.hd _ hr0).1;have hs0:=Nat.le_trans (C9 hr0) hvz;replace H:=AI hr0 (AI hd0 (AI hs0 H)))|(refine XC [1,3,4,5,6] [1,6] 8 (k0) (fun k1=>bdA w (BD w)[k0] ((BD w).take k0)=bdA w (BD w)[k0] (((BD w).take k0).drop k1)) ?_;intro k1 hk1 hi1;by_cases hkj:k1<k0;rotate_left;have hon:=Uj w hkk (hi1.trans (RN w _ (by simp;omega)));replace H:=AI hon H;rotate_left;have hkl:k1<(BD w).length:=(by omega);have hbn:=Wa w (BD w)[k0] hkj hkl;have hoy:=fun (h:ovA (Am w (BD w)[k1]) (Am w (BD w)[k0])=false)=>QJ w hkk (hi1.trans (WY hbn h));have hox:=fun (h:ovA (Am w (BD w)[k1]) (Am w (BD w)[k0])=true)=>hi1.trans (WZ hbn h);have hr1:=Dw (gm hkl);have hd1:=(hp.hd _ hr1).1;have hs1:=Nat.le_trans (C9 hr1) hvz;replace H:=AI hr1 (AI hd1 (AI hs1 H)))|fail)
instance sCand (w:A1) (g:A9):Ct cx 430 [.d (As w),.d (Dr g)] (vP w∧GT 67108864 g.AM) (.d (.sl true Bc (((C0 w g)).map (A3.dd true)))):=by
 refine Xi func430 55 [.tmp 4] [34,47,54] [] AN (AI @cnd.eq_1<|@Va) ?_;intro hp h M G H E
 have hv:=hp.1;have hvz:=hv.sz;have hvz2:w.sz≤134217728:=(by omega);have hrl:=Dh w;have hgw:=hp.2.wd;replace H:=AI hvz2 (AI hgw H)
 repeat' (first|exact true|(refine IN.mk ?_;intros)|(refine iTw ?_;refine T2 ?_ ?_<;>((try clear H);intro hb H)<;>try (first|exact hb.elim|(exfalso;omega)|(exfalso;grind)))|(refine LF.mk ?_;exact LX)|refine BO.mk ?_ ?_|(apply iPJ;exact NPJ)|apply PXs.of|refine GN ?_|(refine XL [2,3,6] [2,3] (fun k0 _=>[(7,.d (.lf (.int .i64 (k0:Int)))),(5,.d (.sl true Bc (((fiK (cnd w g) (BD w) k0)).map (A3.dd true))))]) (fun _ _=>[]) ((BD w).length) (fun _ _=>True) rU ?_;intro k0 hk0 s0 hi0;have hol:=Z3 (cnd w g) (BD w) k0;by_cases hkk:k0<(BD w).length;rotate_left;have hoe:fiK (cnd w g) (BD w) k0=C0 w g:=Z4 (by omega);replace H:=AI hoe H;rotate_left;have hr0:inR w (BD w)[k0]:=Dw (gm hkk);have hd0:=(hv.hd _ hr0).1;have hs0:=C9 hr0;have hw0:(Am w (BD w)[k0]).Ar.sz≤134217727:=(by have hq:=(Am w (BD w)[k0]).sz_eq;unfold szs at hq;omega);have ht0:AQ (Am w (BD w)[k0]).Ar≤134217728:=Nat.le_trans hd0.1 (by decide);replace H:=AI hr0 (AI hd0 (AI hw0 (AI ht0 H)));obtain⟨i0,j0,hx0,hy0,he0⟩:=hr0;have hI0:=DZ hx0 hy0;replace H:=AI he0 (AI hI0 (AI hx0 (AI hy0 H)));have hcy:=@eL w g k0 hkk;have hcn:=@eM w g k0 hkk;rw[he0,hI0] at hcy hcn;rcases Classical.em (w.A2[i0].AO[j0].AK=g.AK∧mtB w.A2[i0].AO[j0].Ar g.AM=true) with hc|hc;have hce:=hcy hc;replace H:=AI hc (AI hce H);rotate_left;have hce:=hcn (by grind);replace H:=AI hce H;rotate_left)|fail)
section
variable {w:A1} {F:List AD} {tr n:ByteArray} {N:Nat} {k:Int} {l op:List A0}
theorem fL (h:(k=2∧Cp n=true)∨0≤fAi F ⟨tr,⟨k,n,l⟩⟩):au w F tr (N+1) ⟨k,n,l⟩ op=0:=by
 rw[Wd]
 split
 ·rfl
 ·rename_i q
  rcases h with h|h
  ·exact absurd h q
  ·rw[if_pos h]
theorem jX (h:Cn op ⟨k,n,l⟩=true):au w F tr (N+1) ⟨k,n,l⟩ op=0:=by
 rw[Wd]
 simp[h]
theorem fM (h:(k=2→Cp n=false)∧fAi F ⟨tr,⟨k,n,l⟩⟩<0) (h2:Cn op ⟨k,n,l⟩=false):au w F tr (N+1) ⟨k,n,l⟩ op=if ¬daT w ⟨k,n,l⟩=true then 1
  else if 30<op.length then 3
  else if 400<szW ⟨k,n,l⟩ then 3
  else fc (auC w F tr N ⟨k,n,l⟩ op) (daR w n).1.A4:=by
 rw[Wd,if_neg,if_neg (by omega),if_neg (by rw[h2];decide)]
 rintro ⟨a,b⟩
 have:=h.1 a
 simp only at b
 rw[this] at b;exact absurd b (by decide)
theorem jW (h:(k=2→Cp n=false)∧fAi F ⟨tr,⟨k,n,l⟩⟩<0) (h2:Cn op ⟨k,n,l⟩=false) (h3:(¬k=2∨(daR w n).2.2=false)∨¬(daR w n).1.AZ.length=l.length):au w F tr (N+1) ⟨k,n,l⟩ op=1:=by
 rw[fM h h2,if_pos]
 unfold daT
 rcases h3 with (h3|h3)|h3<;>simp[h3]
theorem W1 (h:(k=2∧(daR w n).2.2=true)∧(daR w n).1.AZ.length=l.length):daT w ⟨k,n,l⟩=true:=by
 unfold daT
 simp[h.1.1,h.1.2,h.2]
theorem jV (h:(k=2→Cp n=false)∧fAi F ⟨tr,⟨k,n,l⟩⟩<0) (h2:Cn op ⟨k,n,l⟩=false) (h3:(k=2∧(daR w n).2.2=true)∧(daR w n).1.AZ.length=l.length) (h4:30<op.length∨400<szW ⟨k,n,l⟩):au w F tr (N+1) ⟨k,n,l⟩ op=3:=by
 rw[fM h h2,if_neg (by rw[W1 h3];decide)]
 split
 ·rfl
 ·rcases h4 with h4|h4
  ·contradiction
  ·rw[if_pos h4]
theorem Zw (h:(k=2→Cp n=false)∧fAi F ⟨tr,⟨k,n,l⟩⟩<0) (h2:Cn op ⟨k,n,l⟩=false) (h3:(k=2∧(daR w n).2.2=true)∧(daR w n).1.AZ.length=l.length) (h4:op.length≤30∧szW ⟨k,n,l⟩≤400):au w F tr (N+1) ⟨k,n,l⟩ op=fc (auC w F tr N ⟨k,n,l⟩ op) (daR w n).1.A4:=by
 rw[fM h h2,if_neg (by rw[W1 h3];decide),if_neg (by omega),if_neg (by omega)]
theorem I5 {α:Type} {f:α→Int} {l:List α} {k:Nat} (h:k<l.length) (e:f l[k]=0):fc f (l.drop k)=fc f (l.drop (k+1)):=by rw[List.drop_eq_getElem_cons h];simp only[fc];rw[if_pos e]
theorem G6 {α:Type} {f:α→Int} {l:List α} {k:Nat} (h:k<l.length) (e:¬f l[k]=0):fc f (l.drop k)=f l[k]:=by rw[List.drop_eq_getElem_cons h];simp only[fc];rw[if_neg e]
end
