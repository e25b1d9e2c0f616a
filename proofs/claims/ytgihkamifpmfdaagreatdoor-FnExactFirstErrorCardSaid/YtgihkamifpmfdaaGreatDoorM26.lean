/- Part 26. No condition. -/
import Derived.Test.YtgihkamifpmfdaaGreatDoorM24
import Derived.Test.YtgihkamifpmfdaaGreatDoorM25
namespace Go.Proofs.YtgihkamifpmfdaaGreatDoor
open Go.RowKit Classical Tryz
set_option linter.unusedVariables false
set_option maxRecDepth 10000
set_option linter.unusedSimpArgs false
set_option maxHeartbeats 4000000
def inR (w:A1) (o:A3):Prop:=∃(i k:Nat) (h:i<w.A2.length),k<w.A2[i].AQ.length∧o=⟨(i:Int),(k:Int)⟩
def Ao (w:A1) (o:A3):AJ:=((w.A2[o.BA.toNat]?).bind fun p=>p.AQ[o.fAt.toNat]?).getD zIn
theorem Da {w:A1} {i k:Nat} (h:i<w.A2.length) (hk:k<w.A2[i].AQ.length):Ao w ⟨(i:Int),(k:Int)⟩=w.A2[i].AQ[k]:=by
 unfold Ao
 simp only[Int.toNat_natCast,List.getElem?_eq_getElem h,Option.bind_some,List.getElem?_eq_getElem hk,Option.getD_some]
theorem C9 {w:A1} {o:A3} (h:inR w o):(Ao w o).sz≤w.sz:=by
 obtain⟨i,k,hi,hk,rfl⟩:=h
 rw[Da hi hk]
 have h1:=Ae AJ.sz (gm hk)
 have h2:=Ae A8.sz (gm hi)
 have h3:=(w.A2[i]).sz_eq;have h4:=w.sz_eq
 unfold szs at h3 h4;omega
def rfK (i k:Nat):List A3:=(List.range k).map fun (j:Nat)=>⟨(i:Int),(j:Int)⟩
theorem JL (i:Nat):rfK i 0=[]:=rfl
theorem P2 (i k:Nat):rfK i (k+1)=rfK i k++[⟨(i:Int),(k:Int)⟩]:=by unfold rfK;rw[List.range_succ,List.map_append];rfl
theorem Gq (i k:Nat):(rfK i k).length=k:=by simp[rfK]
def rfP (w:A1) (i:Nat):List A3:=match w.A2[i]? with
 |some p=>rfK i p.AQ.length
 |none=>[]
theorem F4 {w:A1} {i:Nat} (h:i<w.A2.length):rfP w i=rfK i w.A2[i].AQ.length:=by unfold rfP;rw[List.getElem?_eq_getElem h]
def alK (w:A1) (k:Nat):List A3:=(List.range k).flatMap (rfP w)
theorem KJ (w:A1):alK w 0=[]:=rfl
theorem KL (w:A1) (k:Nat):alK w (k+1)=alK w k++rfP w k:=by unfold alK;rw[List.range_succ,List.flatMap_append];simp
def BF (w:A1):List A3:=alK w w.A2.length
theorem Me {w:A1} {k:Nat} (h:k=w.A2.length):alK w k=BF w:=by rw[h];rfl
theorem Xv (w:A1):∀k,k≤w.A2.length→(alK w k).length≤szL A8.sz (w.A2.take k)
 |0,_=>Nat.zero_le _
 |k+1,h=>by
  have h1:=Xv w k (by omega)
  have hk:k<w.A2.length:=by omega
  rw[KL,F4 hk,List.length_append,Gq,Y' hk,Gg]
  have h2:=(w.A2[k]).sz_eq
  unfold szs at h2
  simp only[szL];omega
theorem KK (w:A1) {k:Nat} (h:k≤w.A2.length):(alK w k).length≤w.sz:=by
 have h1:=Xv w k h
 have h2:=E7 A8.sz w.A2 k
 have h3:=w.sz_eq
 unfold szs at h3;omega
theorem Pg {w:A1} {k:Nat} (h:k<w.A2.length):(alK w k).length+w.A2[k].AQ.length≤w.sz:=by
 have:=KK w (k:=k+1) h
 rw[KL,F4 h,List.length_append,Gq] at this;exact this
theorem Dj (w:A1):(BF w).length≤w.sz:=KK w (Nat.le_refl _)
theorem Dc {w:A1} {o:A3} (h:o∈BF w):inR w o:=by
 unfold BF alK at h
 obtain⟨i,hi,h⟩:=List.mem_flatMap.1 h
 have hi:=List.mem_range.1 hi
 rw[F4 hi] at h
 obtain⟨k,hk,rfl⟩:=List.mem_map.1 h
 exact⟨i,k,hi,List.mem_range.1 hk,rfl⟩
def Fj (w:A1) (t:A0):Int:=if t.AH=2∧¬Cq t.A5=true∧(daR w t.A5).2.2=true then ((daR w t.A5).2.1:Int) else -1
def Fc (w:A1) (o:A3):Bool:=((trR w (Ao w o).AK).2.2 && decide (((trR w (Ao w o).AK).2.1:Int)=o.BA))||decide (Fj w (Ao w o).At=o.BA)
mutual
def A0.wd:A0→Prop
 |⟨_,_,l⟩=>l.length≤134217728∧A0.wds l
def A0.wds:List A0→Prop
 |[]=>True
 |x::l=>x.wd∧A0.wds l
end
theorem Po:∀{l:List A0},A0.wds l→∀y∈l,y.wd
 |x::l,h,y,hy=>by
  simp only[A0.wds] at h
  rcases List.mem_cons.1 hy with rfl|hy
  ·exact h.1
  ·exact Po h.2 y hy
theorem Tr:∀{l:List A0},(∀y∈l,y.wd)→A0.wds l
 |[],_=>trivial
 |x::l,h=>by simp only[A0.wds];exact⟨h x (by simp),Tr fun y hy=>h y (by simp[hy])⟩
theorem Oi (x:A0):x.wd↔x.AB.length≤134217728∧∀y∈x.AB,y.wd:=by
 cases x;simp only[A0.wd]
 exact⟨fun h=>⟨h.1,Po h.2⟩,fun h=>⟨h.1,Tr h.2⟩⟩
theorem D0 {x:A0} (h:x.wd):x.AB.length≤134217728:=((Oi x).1 h).1
theorem Bj {x:A0} (h:x.wd):∀y∈x.AB,y.wd:=((Oi x).1 h).2
theorem bY:∀(n:Nat) (x:A0),AR x<n→x.sz≤134217728→x.wd
 |0,x,h,_=>by omega
 |n+1,x,h,hz=>by
  have h1:=BG x
  have h2:=x.sz_eq;unfold szs at h2
  refine(Oi x).2 ⟨by omega,fun y hy=> ?_⟩
  obtain⟨k,hk,rfl⟩:=List.getElem_of_mem hy
  have:=Bo hk
  have:=Ae A0.sz hy
  exact bY n _ (by omega) (by omega)
theorem CJ {x:A0} (h:x.sz≤134217728):x.wd:=bY _ x (Nat.lt_succ_self _) h
mutual
theorem Mm {s:List A6} (h:∀b∈s,b.AM.wd):∀{t:A0},t.wd→(ap s t).wd
 |⟨k,n,l⟩,ht=>by
  simp only[A0.wd] at ht
  rw[ap]
  split
  ·rename_i u hu
   split at hu
   ·obtain⟨b,h1, -,h3⟩:=F7 hu
    rw[←h3];exact h b h1
   ·cases hu
  ·simp only[A0.wd];refine⟨by rw[Mb,List.length_map];exact ht.1,Tt h ht.2⟩
theorem Tt {s:List A6} (h:∀b∈s,b.AM.wd):∀{l:List A0},A0.wds l→A0.wds (aps s l)
 |[],_=>trivial
 |x::l,hl=>by simp only[A0.wds] at hl;simp only[aps,A0.wds];exact⟨Mm h hl.1,Tt h hl.2⟩
end
theorem cL {s:List A6} {v:BA'} {k:Nat} (h:k<s.length):lkB (s.drop k) v=if s[k].Fl=v then some s[k].AM else lkB (s.drop (k+1)) v:=by
 rw[List.drop_eq_getElem_cons h,lkB]
theorem VW {s:List A6} {v:BA'} {k:Nat} (h:s.length≤k):lkB (s.drop k) v=none:=by rw[List.drop_eq_nil_of_le h];rfl
theorem cu (s:List A6) (x:A0):ap s x=if x.AH=1∧(lkB s x.A5).isSome=true then (lkB s x.A5).getD zT else ⟨x.AH,x.A5,x.AB.map (ap s)⟩:=by
 obtain⟨k,n,l⟩:=x
 rw[ap,Mb]
 by_cases hk:k=1
 ·subst hk
  cases h:lkB s n with
  |none=>simp[h]
  |some u=>simp[h]
 ·simp[hk]
theorem e9 (x:A1) (i:Int) (hz:x.sz≤134217728) (h:HP):CS cx.P 285 [.d ((x).dd false),dI' i] h (.d (.sl false .one ((vis x i).map (dN)))) h:=by
 have q:=CS.vw (eA x i hz h)
 simpa using q
instance oE (x lo hi:Int):Ct cx 27 [dI' x,dI' lo,dI' hi] (True) (dB' (Ap x lo hi)):=⟨fk1 func27,fun hp h=>by have q:=Fh x lo hi h;first|exact q|simpa using q⟩
instance kI (s:BA'):Ct cx 204 [dS' s] (True) (dB' (Cq s)):=⟨fk1 func204,fun hp h=>by have q:=Gx s h;first|exact q|simpa using q⟩
instance fB (l:List Nat) (s:Nat):Ct cx 284 [.d (.sl false .one ((l).map (dN))),dI' ((s:Nat):Int)] (l.length≤4294967296) (dB' (F9 l s)):=⟨fk1 func284,fun hp h=>by have q:=Je l s hp h;first|exact q|simpa using q⟩
instance nL (w:A1) (i:Int):Ct cx 285 [.d (Au w),dI' i] (w.sz≤134217728) (.d (.sl false .one ((vis w i).map (dN)))):=⟨fk1 func285,fun hp h=>by have q:=(e9 w i hp) h;first|exact q|simpa using q⟩
instance nW (w:A1) (i:Int) (k:Nat):Ct cx 195 [.d (Au w),dI' i,dI' ((k:Nat):Int)] (w.sz≤134217728) (dB' (F9 (vis w i) k)):=by
 refine Xi func195 12 [.tmp 6] [] [] AN trivial ?_;intro hp h M G H E
 have hvl:=Y5 (x:=w) (i:=i)
 have hz2:=w.sz_eq;unfold szs at hz2
 all_goals exact GA0
instance sTrAt (w:A1) (s:BA'):Ct cx 135 [.d (Au w),dS' s] (True) (.tp [.d (((trR w s).1).dd false),dI' (((trR w s).2.1:Nat):Int),dB' ((trR w s).2.2)]):=by
 refine Xiv func135 50 [.cell 4 77,.tmp 5,.tmp 6] [47] [] AN (AI @trR.eq_1<|AI @DX.eq_def<|AI @nmF.eq_1<|AI @Ay<|AI @As<|@zTr.eq_1) ?_;intro hp h M G H E
 repeat' (first|(refine IN.mk ?_;intros)|(refine iTw ?_;refine T2 ?_ ?_<;>((try clear H);intro hb H)<;>try exact hb.elim)|(refine LF.mk ?_;exact LX)|refine GN ?_|(refine XC [1,2,4] [2,4] 7 (w.A2.length) (fun k0=>inP A8.Aj AU.A5 w s=fs (inF A8.Aj AU.A5 s) k0 (w.A2.drop k0)) ?_;intro k0 hk0 hi0)|(refine XC [1,2,4,7] [2,4] 8 (w.A2[k0].Aj.length) (fun k1=>inF A8.Aj AU.A5 s k0 w.A2[k0]=fs (nmF AU.A5 s k0) k1 (w.A2[k0].Aj.drop k1)) ?_;intro k1 hk1 hi1)|fail)
instance sTrV (w:A1) (i:Int) (s:BA'):Ct cx 125 [.d (Au w),dI' i,dS' s] (w.sz≤134217728) (.tp [.d (((trR w s).1).dd false),dB' (trV w (vis w i) s)]):=by
 refine Xiv func125 26 [.cell 6 77,.tmp 7] [18] [] AN (@trV.eq_1) ?_;intro hp h M G H E
 all_goals exact GA1
instance:DecidableEq A9:=fun x y=>decidable_of_iff (x.AK=y.AK∧x.AM=y.AM) (by cases x;cases y;simp)
def zsf (s:BA'):BA':=s++⟨#[122]⟩
def bSm (b:A9) (hd:A0):Bool:=(tv b.AM).all (fun v=>decide (occ v b.AM≤occ v hd)) && decide (AR b.AM<AR hd)
def FW (x:AJ):Bool:=x.Ah.all fun b=>bSm b x.At
noncomputable def asF (w:A1) (i:Nat):List A9→List AD
 |[]=>[]
 |b::l=>⟨b,i,[]⟩::((Ce w b.AK).map fun u=>⟨⟨u,b.AM⟩,(i:Int),(((pth w u 8 b.AK).getD []).map fun (n:Nat)=>(n:Int))⟩)++asF w (i+1) l
noncomputable def asm (w:A1) (l:List A9):List AD:=asF w 0 l
def zRf:A3:=⟨0,0⟩
def apS (e:A7) (l:List Int):A7:=l.foldl (fun e n=>⟨3,n,zRf,[e]⟩) e
def gnd (t:A0):Bool:=decide (tv t=[]) && !Bq t
noncomputable def Tc (w:A1):Bool:=w.A2.all fun p=>p.Aj.all fun t=> !B7 (Ce w t.A5) t.A5
noncomputable def He (w:A1) (l out:List BA'):List BA':=if h:∃n r,sup w n l out=some r then h.choose_spec.choose else []
theorem Q9 {w:A1} {n m:Nat} {l out r r2:List BA'} (h:sup w n l out=some r) (k:sup w m l out=some r2):r=r2:=by
 have h1:=Lf (Nat.le_max_left n m) h
 have h2:=Lf (Nat.le_max_right n m) k
 rw[h1] at h2;exact Option.some.inj h2
theorem Ii {w:A1} {n:Nat} {l out r:List BA'} (h:sup w n l out=some r):He w l out=r:=by
 have hh:∃n r,sup w n l out=some r:=⟨n,r,h⟩
 unfold He
 rw[dif_pos hh]
 exact Q9 hh.choose_spec.choose_spec h
def SP (w:A1) (B n:Nat) (s:BA') (out:List BA'):Prop:=∃m,m<n∧∃r,sup w m (Al w s) out=some r∧r.length≤B
def SI (w:A1) (B n:Nat) (l R:List BA') (k:Nat) (out:List BA'):Prop:=∃m,m≤n∧sup w m (l.drop k) out=some R∧R.length≤B
theorem FY {w:A1}:∀(n:Nat) (l out r:List BA'),sup w n l out=some r→out.length≤r.length
 |n,[],out,r,h=>by cases n<;>(simp[sup] at h;subst h;exact Nat.le_refl _)
 |0,_::_,_,_,h=>by simp[sup] at h
 |n+1,s::l,out,r,h=>by
  rw[sup] at h
  by_cases e:B7 out s=true
  ·rw[if_pos e] at h;exact FY n l out r h
  ·rw[if_neg e] at h
   cases h1:sup w n (Al w s) (out++[s]) with
   |none=>rw[h1] at h;cases h
   |some o=>
    rw[h1] at h
    have:=FY n _ _ _ h1;have:=FY n _ _ _ h
    simp at*;omega
theorem SI.end {w:A1} {B n k:Nat} {l R out:List BA'} (h:SI w B n l R k out) (hk:l.length≤k):out=R:=by
 obtain⟨m, -,h1, -⟩:=h
 rw[List.drop_eq_nil_of_le hk] at h1
 cases m<;>simpa[sup] using h1
theorem SI.len {w:A1} {B n k:Nat} {l R out:List BA'} (h:SI w B n l R k out):out.length≤B:=by
 obtain⟨m, -,h1,h2⟩:=h
 have:=FY m _ _ _ h1;omega
theorem SI.has {w:A1} {B n k:Nat} {l R out:List BA'} (h:SI w B n l R k out) (hk:k<l.length) (e:B7 out l[k]=true):SI w B n l R (k+1) out:=by
 obtain⟨m,h0,h1,h2⟩:=h
 rw[List.drop_eq_getElem_cons hk] at h1
 cases m with
 |zero=>simp[sup] at h1
 |succ m=>rw[sup,if_pos e] at h1;exact⟨m,by omega,h1,h2⟩
theorem SI.not {w:A1} {B n k:Nat} {l R out:List BA'} (h:SI w B n l R k out) (hk:k<l.length) (e:B7 out l[k]=false):SP w B n l[k] (out++[l[k]])∧SI w B n l R (k+1) (He w (Al w l[k]) (out++[l[k]])):=by
 obtain⟨m,h0,h1,h2⟩:=h
 rw[List.drop_eq_getElem_cons hk] at h1
 cases m with
 |zero=>simp[sup] at h1
 |succ m=>
  rw[sup,if_neg (by rw[e];simp)] at h1
  cases hq:sup w m (Al w l[k]) (out++[l[k]]) with
  |none=>rw[hq] at h1;cases h1
  |some o=>
   rw[hq] at h1
   have:=FY m _ _ _ h1
   exact⟨⟨m,by omega,o,hq,by omega⟩,⟨m,by omega,by rw[Ii hq];exact h1,h2⟩⟩
theorem SP.start {w:A1} {B n:Nat} {s:BA'} {out:List BA'} (h:SP w B (n+1) s out):SI w B n (Al w s) (He w (Al w s) out) 0 out:=by
 obtain⟨m,h0,r,h1,h2⟩:=h
 exact⟨m,by omega,by rw[Ii h1];simpa using h1,by rw[Ii h1];exact h2⟩
def bC:AV→List BA'
 | .d (.sl _ _ es)=>es.filterMap fun
  | .lf (.string s)=>some s
  |_=>none
 |_=>[]
theorem XW (o:Bool) (s:Sh) (l:List BA'):bC (.d (.sl o s (l.map dS)))=l:=by
 unfold bC;induction l with
 |nil=>rfl
 |cons x l ih=>simp only[List.map_cons,dS,List.filterMap_cons];simp only[dS] at ih;rw[ih]
attribute [simp] XW
instance ll (l:List BA') (s:BA'):Ct cx 61 [.d (.sl false .one ((l).map (dS))),dS' s] (l.length≤134217728) (dB' (B7 l s)):=⟨fk1 func61,fun hp h=>by have q:=F8 l s (by omega) h;first|exact q|simpa using q⟩
instance oW (l:List BA') (s:BA'):Ct cx 103 [.d (.sl false .one ((l).map (dS))),dS' s] (l.length≤134217728) (dB' (B7 l s)):=⟨fk1 func103,fun hp h=>by have q:=DZ l s (by omega) h;first|exact q|simpa using q⟩
def TW (c:AA) (x:Ac):Bool:=decide (x.AZ=c.A5) && decide (x.Aa.length=c.Av.length)
def TR (l:List AA) (k:Nat) (s:BA'):Bool:=(l.take k).any fun c=>decide (c.A5=s)
def G3 (l:List AA) (a:List Ac) (k:Nat) (c:AA):Bool:= !TR l k c.A5 && decide (a.countP (TW c)=1)
def H8 (d:AF) (a:List Ac):Bool:=decide (a.length=d.A4.length) && (fs (bad (G3 d.A4 a)) 0 d.A4).isNone
theorem bE (c:AA) (x:Ac):TW c x=(decide (x.AZ=c.A5) && decide (x.Aa.length=c.Av.length)):=rfl
theorem Do {α:Type} (p:Nat→α→Bool) (i:Nat) (x:α):bad p i x=if p i x then none else some ():=rfl
theorem IG {α:Type} (g:α→BA') (s:BA'):∀(l:List α) (i:Nat),(fs (byF g s) i l).map Prod.fst=l.find? fun x=>decide (g x=s)
 |[],_=>rfl
 |x::l,i=>by
  rw[fs,List.find?_cons]
  unfold byF
  by_cases h:g x=s
  ·simp[h]
  ·simp only[h,if_false,decide_false];exact IG g s l (i+1)
theorem aH (d:AF) (a:List Ac):H8 d a=Jr d a:=by
 unfold H8 Jr
 by_cases hl:a.length=d.A4.length
 ·rw[decide_eq_true hl,Bool.true_and,Bool.and_true,Bool.eq_iff_iff,PK,Bool.and_eq_true,ML,List.all_eq_true]
  have hdup:∀k (hk:k<d.A4.length),TR d.A4 k d.A4[k].A5=false↔∀j (hj:j<k),¬(d.A4[j]'(by omega)).A5=d.A4[k].A5:=fun k hk=>by
   unfold TR
   rw[List.any_eq_false]
   constructor
   ·intro h j hj
    have:=h d.A4[j] (List.mem_take_iff_getElem.2 ⟨j,by omega,rfl⟩)
    simpa using this
   ·intro h c hc
    obtain⟨j,hj,rfl⟩:=List.mem_take_iff_getElem.1 hc
    simpa using h j (by omega)
  have hnd:(∀i (h:i<(d.A4.map AA.A5).length),∀j (hj:j<i),¬(d.A4.map AA.A5)[j]=(d.A4.map AA.A5)[i])↔(d.A4.map AA.A5).Nodup:=by
   rw[List.nodup_iff_pairwise_ne,List.pairwise_iff_getElem]
   exact⟨fun h i j hi hj hij=>h j hj i hij,fun h i hi j hj=>h j i (by omega) hi hj⟩
  have hby:∀c:AA,c1 a c=true↔∃x,a.find? (fun x=>decide (x.AZ=c.A5))=some x∧decide (x.Aa.length=c.Av.length)=true:=fun c=>by
   have:=IG Ac.AZ c.A5 a 0
   unfold c1 byN
   cases h:fs (byF Ac.AZ c.A5) 0 a with
   |none=>rw[h] at this;simp only[Option.map_none] at this;rw[←this];simp
   |some x=>rw[h] at this;simp only[Option.map_some] at this;rw[←this];simp
  simp only[hby]
  constructor
  ·intro h
   have h1:∀k (hk:k<d.A4.length),TR d.A4 k d.A4[k].A5=false:=fun k hk=>by have:=h k hk;simp[G3] at this;exact this.1
   have h2:(∀i (h:i<(d.A4.map AA.A5).length),∀j (hj:j<i),¬(d.A4.map AA.A5)[j]=(d.A4.map AA.A5)[i]):=fun i hi j hj=>by
    simp only[List.length_map] at hi
    simpa using(hdup i hi).1 (h1 i hi) j hj
   refine⟨(W9 AA.A5 Ac.AZ (fun c x=>decide (x.Aa.length=c.Av.length)) _ a (hnd.1 h2) hl).1 fun c hc=> ?_,h2⟩
   obtain⟨k,hk,rfl⟩:=List.getElem_of_mem hc
   have:=h k hk
   simp only[G3,Bool.and_eq_true,decide_eq_true_eq] at this
   exact this.2
  ·rintro ⟨h1,h2⟩ k hk
   have h3:=(W9 AA.A5 Ac.AZ (fun c x=>decide (x.Aa.length=c.Av.length)) _ a (hnd.1 h2) hl).2 h1 _ (gm hk)
   have h4:TR d.A4 k d.A4[k].A5=false:=(hdup k hk).2 fun j hj=>by
    have:=h2 k (by simpa using hk) j hj
    simpa using this
   simp only[G3,h4,Bool.not_false,Bool.true_and,decide_eq_true_eq]
   exact h3
 ·simp[hl]
def Xw {α:Type} (v:BA') (g:Nat) (k:Nat) (val:α→DD) (step:A0→α→α) (sz:α→Nat):Prop:=∀y:A0,y.sz≤134217728→∀c:α,sz c<1073741824→∀(lv:Nat) (h:HP),hpg h lv k=some (.d (val c))→CS cx.P g [.d (y.dd false),.el (.lf (.string v)),.pt lv k []] h (.tp []) (hps h lv k (some (.d (val (step y c)))))
def cnS (v:BA') (y:A0) (c:Nat):Nat:=if (decide (y.AH=1) && decide (y.A5=v))=true then c+1 else c
theorem gd (v:BA') (y:A0) (c:Nat):cnS v y c≤c+1:=by unfold cnS;split<;>omega
mutual
theorem Jv (v:BA'):∀(x:A0) (c:Nat),ev (cnS v) x c=c+occ v x
 |⟨k,n,l⟩,c=>by
  simp only[ev,WU v l,occ,cnS]
  by_cases h1:k=1<;>by_cases h2:n=v<;>simp[h1,h2]<;>omega
theorem WU (v:BA'):∀(l:List A0) (c:Nat),evs (cnS v) l c=c+DW v l
 |[],c=>by simp[evs,DW]
 |x::l,c=>by simp only[evs,DW,Jv v x,WU v l];omega
end
theorem OG {α:Type} (x:A0) (hz:x.sz≤134217728) (v:BA') (g:Nat) (fn:Func) (body:Code) (hg:CU cx.P g fn body) (k:Nat) (val:α→DD) (step:A0→α→α) (sz:α→Nat) (hsz:∀y c,sz (step y c)≤sz c+1) (hv:Xw v g k val step sz) (c:α) (hc:sz c+AR x≤1073741824) (lv:Nat) (ih:∀y∈x.AB,∀c,sz c+AR y≤1073741824→∀(lv:Nat) (h:HP),hpg h lv k=some (.d (val c))→CS cx.P 250 [.d (y.dd false),.fn g [.el (.lf (.string v)),.pt lv k []]] h (.tp []) (hps h lv k (some (.d (val (ev step y c)))))) (h:HP) (hcap:hpg h lv k=some (.d (val c))):CS cx.P 250 [.d (x.dd false),.fn g [.el (.lf (.string v)),.pt lv k []]] h (.tp []) (hps h lv k (some (.d (val (ev step x c))))):=by
 have hz2:=x.sz_eq;unfold szs at hz2
 have hc2:=Dh hcap
 have hts:0<AR x:=by cases x;simp only[AR];omega
 refine Ze func250 rfl 20 ?_
 refine Zw ?_
 apply Zr;intros
 iterate 2 (refine Zo ?_;simp)
 refine WL.call [] _ _ _ rfl rfl (by simp) (g:=g) (caps:=[.el (.lf (.string v)),.pt (lv+1) k []]) (by simp) (by simp) hg rfl (by simp) (by simp) (by simp) (hv x hz c (by omega) (lv+1) _ (by simpa using hc2)) rfl ?_;simp
 exact Zx
 refine Zw ?_
 refine W.block ?_
 refine W.loopT [1,10,11] [] (fun k0=>[(12,dI' k0)]) (fun _=>[]) x.AB.length (fun k0=>hps h lv k (some (.d (val (evK step x c k0))))) (by simp[Jw]) (by simp) fun k0 hk0 T hT=> ?_
 simp at hT;subst hT
 refine Zw ?_
 refine Zv rfl ?_ ?_<;>intro hb0<;>try simp at hb0
 have hx:=B2 hb0 (by omega)
 have hs:=Jx (step:=step) (c:=c) hb0
 refine W.skip ?_
 refine Zb ?_
 apply Zr;intros
 refine Zo ?_ (by simp[hb0,hx]<;>omega);simp[hb0,hx]
 refine Zm [15] ?_ (by simp[hb0,hx]<;>omega);simp[hb0,hx]
 iterate 2 (refine Zo ?_ (by simp[hb0,hx]<;>omega);simp[hb0,hx])
 exact Zx
 apply Zs;intros
 iterate 2 (refine Zo ?_ (by simp[hb0,hx]<;>omega);simp[hb0,hx])
 refine Zl [] rfl func250 (ih x.AB[k0] (gm hb0) (evK step x c k0) (by have:=WZ hsz (c:=c) hb0;omega) (lv+1) _ (by simpa using Dh (Et hcap))) ?_ (by simp[hb0,hx]);simp[hb0,hx]
 exact Zx
 apply Zs;intros
 iterate 2 (refine Zo ?_ (by simp[hb0,hx]<;>omega);simp[hb0,hx])
 exact Zx
 refine⟨hb0,Wz.toT (by simp[hs]) rfl ?_⟩
 simp
 have hkl:k0=x.AB.length:=by omega
 subst hkl
 simp only[Jy]
 refine W.exit ?_
 refine⟨.inl rfl,⟨_,rfl⟩,?_⟩
 simp[f250]
theorem II {α:Type} (x:A0) (hz:x.sz≤134217728) (v:BA') (g:Nat) (fn:Func) (body:Code) (hg:CU cx.P g fn body) (k:Nat) (val:α→DD) (step:A0→α→α) (sz:α→Nat) (hsz:∀y c,sz (step y c)≤sz c+1) (hv:Xw v g k val step sz) (c:α) (hc:sz c+AR x≤1073741824) (lv:Nat) (h:HP) (hcap:hpg h lv k=some (.d (val c))):CS cx.P 250 [.d (x.dd false),.fn g [.el (.lf (.string v)),.pt lv k []]] h (.tp []) (hps h lv k (some (.d (val (ev step x c))))):=OG x hz v g fn body hg k val step sz hsz hv c hc lv (fun y hy c hc lv h hcap=>II y (by have h1:=Ae A0.sz hy;have h2:=x.sz_eq;unfold szs at h2;omega) v g fn body hg k val step sz hsz hv c hc lv h hcap) h hcap
termination_by SizeOf.sizeOf x
decreasing_by have:=List.sizeOf_lt_of_mem hy;have:=x.lt_fArgs;omega
theorem ai (v:BA') (y:A0) (c:Nat) (hcl:c<1073741824) (lv k:Nat) (h:HP) (hcap:hpg h lv k=some (dI' ((c:Nat):Int))):CS cx.P 331 [.d (y.dd false),.el (.lf (.string v)),.pt lv k []] h (.tp []) (hps h lv k (some (dI' ((cnS v y c:Nat):Int)))):=by
 have hc2:=Dh hcap
 have hw:IntKind.i64.wrap ((c:Int)+1)=((c+1:Nat):Int):=by rw[BH (by omega) (by omega)];omega
 refine Ze func331 rfl 15 ?_
 refine Zw2 ?_
 refine W.seq ?_
 refine W.regJ (D:=_) [2] [] [(12,.d (.lf (.bool (decide (y.AH=1) && decide (y.A5=v)))))] [] rfl (fun _ K hD hK=> ?_) fun T hT=> ?_
 iterate 4 (refine Zo ?_ (by simp[hc2,hw]<;>omega);simp[hc2,hw])
 refine WL.split 7 _ rfl (fun g7=> ?_) fun g7=> ?_<;>try simp at g7
 simp[hc2,hw]
 iterate 4 (refine ZG' ?_ (by simp[hc2,hw]<;>omega);simp[hc2,hw])
 refine Zo ?_ (by simp[hc2,hw]<;>omega);simp[hc2,hw]
 refine WL.nil (hK _ (Wz.to rfl rfl rfl ?_))
 simp[g7]
 simp[hc2,hw]
 iterate 4 (refine ZN' ?_;simp[hc2,hw])
 refine Zo ?_ (by simp[hc2,hw]<;>omega);simp[hc2,hw]
 refine WL.nil (hK _ (Wz.to rfl rfl rfl ?_))
 simp[g7]
 simp at hT;subst hT
 refine Zc rfl ?_ ?_<;>intro hb0<;>try simp at hb0
 have ht:cnS v y c=c+1:=by unfold cnS;rw[if_pos (by simpa using hb0)]
 have hsm:True:=trivial
 apply Zs;intros
 iterate 3 (refine Zo ?_ (by simp[hc2,hw]<;>omega);simp[hc2,hw])
 exact Zx
 refine⟨.inl rfl,⟨_,congrArg (List.cons _) (by simp[ht,hsm])⟩,?_⟩
 simp[f331,ht]
 have ht:cnS v y c=c:=by unfold cnS;rw[if_neg (by simpa using hb0)]
 have hsm:=ED _ _ _ _ hcap
 refine W.skip ?_
 refine⟨.inl rfl,⟨_,congrArg (List.cons _) (by simp[ht,hsm])⟩,?_⟩
 simp[f331,ht]
instance gIn_i (x lo hi:Int):Ct cx 27 [dI' x,dI' lo,dI' hi] (True) (dB' (Ap x lo hi)):=⟨fk1 func27,fun hp h=>by have q:=Fh x lo hi h;first|exact q|simpa using q⟩
instance m0 (s:BA'):Ct cx 204 [dS' s] (True) (dB' (Cq s)):=⟨fk1 func204,fun hp h=>by have q:=Gx s h;first|exact q|simpa using q⟩
instance pN (s:BA'):Ct cx 236 [dS' s] (True) (dB' (Cq s)):=⟨fk1 func236,fun hp h=>by have q:=EL s h;first|exact q|simpa using q⟩
instance pI (s:BA'):Ct cx 189 [dS' s] (True) (dB' (B7 rsv s)):=⟨fk1 func189,fun hp h=>by have q:=IB s h;first|exact q|simpa using q⟩
instance ly (s:BA'):Ct cx 221 [dS' s] (True) (dB' (B7 rsv s)):=⟨fk1 func221,fun hp h=>by have q:=ID s h;first|exact q|simpa using q⟩
instance pL (n:Int):Ct cx 219 [.d (.lf (.int .u8 (n)))] (True) (dB' (low n)):=⟨fk1 func219,fun hp h=>by have q:=L6 n h;first|exact q|simpa using q⟩
instance pM (n:Int):Ct cx 220 [.d (.lf (.int .u8 (n)))] (True) (dB' (dig n)):=⟨fk1 func220,fun hp h=>by have q:=L7 n h;first|exact q|simpa using q⟩
instance gHas (l:List BA') (s:BA'):Ct cx 61 [.d (.sl false .one ((l).map (dS))),dS' s] (True) (dB' (B7 l s)):=by
 refine Xi func61 18 [.tmp 4] [] [] AN (AI @B7.eq_1<|AI @Cc<|@Bp) ?_;intro hp h M G H E
 repeat' (first|(refine IN.mk ?_;intros)|(refine iTw ?_;refine T2 ?_ ?_<;>((try clear H);intro hb H)<;>try exact hb.elim)|(refine LF.mk ?_;exact LX)|refine GN ?_|(refine XC [0,1] [] 5 (l.length) (fun k0=>B7 l s=(l.drop k0).any fun x=>decide (x=s)) ?_;intro k0 hk0 hi0)|fail)
instance gName (s:BA'):Ct cx 122 [dS' s] (True) (dB' (BV s)):=by
 refine Xi func122 47 [.tmp 2] [] [] AN (AI @BV.eq_1<|AI @Ka.eq_1<|AI @An.eq_1<|AI @low.eq_1<|AI @dig.eq_1<|AI @Bc<|@BM) ?_;intro hp h M G H E
 repeat' (first|exact true|(refine IN.mk ?_;intros)|(refine iTw ?_;refine T2 ?_ ?_<;>((try clear H);intro hb H)<;>try exact hb.elim)|(refine LF.mk ?_;exact LX)|refine BO.mk ?_ ?_|(apply iPJ;exact NPJ)|apply PXs.of|refine GN ?_|(refine XC [0] [] 3 (s.size) (fun k0=>BV s=((List.range s.size).drop k0).all (An s)) ?_;intro k0 hk0 hi0)|fail)
instance m9 (l:List BA'):Ct cx 190 [.d (.sl false .one ((l).map (dS)))] (True) (dB' (nms l)):=by
 refine Xi func190 16 [.tmp 2] [] [] AN (AI @nms.eq_1<|AI @Cc<|@Bp) ?_;intro hp h M G H E
 repeat' (first|(refine IN.mk ?_;intros)|(refine iTw ?_;refine T2 ?_ ?_<;>((try clear H);intro hb H)<;>try exact hb.elim)|(refine LF.mk ?_;exact LX)|refine GN ?_|(refine XC [0] [] 3 (l.length) (fun k0=>nms l= !((l.drop k0).any fun s=> !BV s)) ?_;intro k0 hk0 hi0)|fail)
instance iTrAt (w:A1) (s:BA'):Ct cx 155 [.d (Au w),dS' s] (True) (.tp [.d (((trR w s).1).dd false),dI' (((trR w s).2.1:Nat):Int),dB' ((trR w s).2.2)]):=by
 refine Xiv func155 35 [.cell 4 77,.tmp 5,.tmp 6] [18,25,30] [] AN (AI @trR.eq_1<|AI @DX.eq_def<|AI @nmF.eq_1<|AI @Ay<|AI @As<|@zTr.eq_1) ?_;intro hp h M G H E
 repeat' (first|(refine IN.mk ?_;intros)|(refine iTw ?_;refine T2 ?_ ?_<;>((try clear H);intro hb H)<;>try exact hb.elim)|(refine LF.mk ?_;exact LX)|refine GN ?_|(refine XC [1,4,12,13] [4] 14 (w.A2.length) (fun k0=>inP A8.Aj AU.A5 w s=fs (inF A8.Aj AU.A5 s) k0 (w.A2.drop k0)) ?_;intro k0 hk0 hi0)|(refine XC [1,4,7,12,13,14,20,21] [4] 22 (w.A2[k0].Aj.length) (fun k1=>inF A8.Aj AU.A5 s k0 w.A2[k0]=fs (nmF AU.A5 s k0) k1 (w.A2[k0].Aj.drop k1)) ?_;intro k1 hk1 hi1)|fail)
instance iDaAt (w:A1) (s:BA'):Ct cx 244 [.d (Au w),dS' s] (True) (.tp [.d (((daR w s).1).dd false),dI' (((daR w s).2.1:Nat):Int),dB' ((daR w s).2.2)]):=by
 refine Xiv func244 35 [.cell 4 81,.tmp 5,.tmp 6] [18,25,30] [] AN (AI @daR.eq_1<|AI @DX.eq_def<|AI @nmF.eq_1<|AI @Ay<|AI @As<|@zDa.eq_1) ?_;intro hp h M G H E
 repeat' (first|(refine IN.mk ?_;intros)|(refine iTw ?_;refine T2 ?_ ?_<;>((try clear H);intro hb H)<;>try exact hb.elim)|(refine LF.mk ?_;exact LX)|refine GN ?_|(refine XC [1,4,12,13] [4] 14 (w.A2.length) (fun k0=>inP A8.AE AF.A5 w s=fs (inF A8.AE AF.A5 s) k0 (w.A2.drop k0)) ?_;intro k0 hk0 hi0)|(refine XC [1,4,7,12,13,14,20,21] [4] 22 (w.A2[k0].AE.length) (fun k1=>inF A8.AE AF.A5 s k0 w.A2[k0]=fs (nmF AF.A5 s k0) k1 (w.A2[k0].AE.drop k1)) ?_;intro k1 hk1 hi1)|fail)
instance iFnAt (w:A1) (s:BA'):Ct cx 324 [.d (Au w),dS' s] (True) (.tp [.d (((fnR w s).1).dd false),dI' (((fnR w s).2.1:Nat):Int),dB' ((fnR w s).2.2)]):=by
 refine Xiv func324 35 [.cell 4 97,.tmp 5,.tmp 6] [18,25,30] [] AN (AI @fnR.eq_1<|AI @DX.eq_def<|AI @nmF.eq_1<|AI @Ay<|AI @As<|AI @zFn.eq_1<|AI @zT.eq_1<|@zX.eq_1) ?_;intro hp h M G H E
 repeat' (first|(refine IN.mk ?_;intros)|(refine iTw ?_;refine T2 ?_ ?_<;>((try clear H);intro hb H)<;>try exact hb.elim)|(refine LF.mk ?_;exact LX)|refine GN ?_|(refine XC [1,4,12,13] [4] 14 (w.A2.length) (fun k0=>inP A8.Ad AL.A5 w s=fs (inF A8.Ad AL.A5 s) k0 (w.A2.drop k0)) ?_;intro k0 hk0 hi0)|(refine XC [1,4,7,12,13,14,20,21] [4] 22 (w.A2[k0].Ad.length) (fun k1=>inF A8.Ad AL.A5 s k0 w.A2[k0]=fs (nmF AL.A5 s k0) k1 (w.A2[k0].Ad.drop k1)) ?_;intro k1 hk1 hi1)|fail)
instance iCtAt (w:A1) (s:BA'):Ct cx 325 [.d (Au w),dS' s] (True) (.tp [.d (((ctR w s).1).dd false),dI' (((ctR w s).2.1:Nat):Int),dB' ((ctR w s).2.2)]):=by
 refine Xiv func325 45 [.cell 4 81,.tmp 5,.tmp 6] [19,26,34,39] [] AN (AI @ctR.eq_1<|AI @DX.eq_def<|AI @ctF.eq_1<|AI @Ay<|AI @As<|@zDa.eq_1) ?_;intro hp h M G H E
 repeat' (first|(refine IN.mk ?_;intros)|(refine iTw ?_;refine T2 ?_ ?_<;>((try clear H);intro hb H)<;>try exact hb.elim)|(refine LF.mk ?_;exact LX)|refine GN ?_|(refine XC [1,4,14,15] [4] 16 (w.A2.length) (fun k0=>fs (ctH s) 0 w.A2=fs (ctH s) k0 (w.A2.drop k0)) ?_;intro k0 hk0 hi0)|(refine XC [1,4,14,15,16,21,22] [4] 23 (w.A2[k0].AE.length) (fun k1=>ctH s k0 w.A2[k0]=fs (ctG s) k1 (w.A2[k0].AE.drop k1)) ?_;intro k1 hk1 hi1)|(refine XC [1,4,10,14,15,16,21,22,23,28,29] [4,10] 30 (w.A2[k0].AE[k1].A4.length) (fun k2=>ctG s k1 w.A2[k0].AE[k1]=fs (ctF s w.A2[k0].AE[k1]) k2 (w.A2[k0].AE[k1].A4.drop k2)) ?_;intro k2 hk2 hi2)|fail)
theorem M5 (l:List AC) (g:Nat) (cs:List AV) (p:AC→Bool) (pp:AC→Prop) (hv:VwC cs) (hi:∀y:AC,Ct cx g (.d (KR y)::cs) (pp y) (dB' (p y))) (hq:∀y∈l,pp y) (h:HP):CS cx.P 429 [.d (.sl false CL ((l).map (AC.dd false))),.fn g cs] h (dI' (CT l p)) h:=by
 refine Xe func429 rfl 19 [.tmp 4] ?_
 let M:List Nat:=[]
 let G:List Nat:=[]
 have H:=AN
 have hq2:∀k (hk:k<l.length),pp l[k]:=fun k hk=>hq _ (gm hk)
 replace H:=AI hv.all H
 repeat' (first|refine GO ?_|(refine Two.mk ?_ ?_<;>intro hb<;>(try simp at hb)<;>(try norm_cast at hb)<;>try replace H:=HN hb H)|(refine RG.mk ?_;(try clear hK hD);first|intro _ K hD hK|intro K hD hK)|(refine RF.mk ?_;intro hr)|(refine LF.mk ?_;(try clear hK hD);first|rfl|(simp[Ax,ipF,Ay,As, *];done)|(simp_all [Ax,ipF,Ay,As];done)|grind [Ax,ipF,Ay,As]))
 refine W.loopR [0,1,7] [] (fun k0 _=>[(8,dI' k0)]) (fun _ _=>[]) (l.length) (fun k0 _=>fs (ipF p) 0 l=fs (ipF p) k0 (l.drop k0)) (fun S=>()) rfl (by simp[H]) (by first|trivial|rfl|(simp;done)|(simp[Ax,ipF,Ay,As];done)|(simp_all [Ax,ipF,Ay,As];done)) ?_
 intro k0 hk0 s0 hi0 T hT;simp at hT;subst hT
 all_goals exact GA3
instance Vq (l:List AC) (g:Nat) (cs:List AV) (p:AC→Bool) (pp:AC→Prop) [hv:VwC cs] [hi:∀y:AC,Ct cx g (.d (KR y)::cs) (pp y) (dB' (p y))]:Ct cx 429 [.d (.sl false CL ((l).map (AC.dd false))),.fn g cs] (∀y∈l,pp y) (dI' (CT l p)):=⟨fk1 func429,fun hq h=>M5 l g cs p pp hv hi hq h⟩
theorem ZX (l:List A0) (g:Nat) (cs:List AV) (p:A0→Bool) (pp:A0→Prop) (hv:VwC cs) (hi:∀y:A0,Ct cx g (.d (N1 y)::cs) (pp y) (dB' (p y))) (hq:∀y∈l,pp y) (h:HP):CS cx.P 373 [.d (.sl false Ai ((l).map (A0.dd false))),.fn g cs] h (dI' (CT l p)) h:=by
 refine Xe func373 rfl 19 [.tmp 4] ?_
 let M:List Nat:=[]
 let G:List Nat:=[]
 have H:=AN
 have hq2:∀k (hk:k<l.length),pp l[k]:=fun k hk=>hq _ (gm hk)
 replace H:=AI hv.all H
 repeat' (first|refine GO ?_|(refine Two.mk ?_ ?_<;>intro hb<;>(try simp at hb)<;>(try norm_cast at hb)<;>try replace H:=HN hb H)|(refine RG.mk ?_;(try clear hK hD);first|intro _ K hD hK|intro K hD hK)|(refine RF.mk ?_;intro hr)|(refine LF.mk ?_;(try clear hK hD);first|rfl|(simp[Ax,ipF,Ay,As, *];done)|(simp_all [Ax,ipF,Ay,As];done)|grind [Ax,ipF,Ay,As]))
 refine W.loopR [0,1,7] [] (fun k0 _=>[(8,dI' k0)]) (fun _ _=>[]) (l.length) (fun k0 _=>fs (ipF p) 0 l=fs (ipF p) k0 (l.drop k0)) (fun S=>()) rfl (by simp[H]) (by first|trivial|rfl|(simp;done)|(simp[Ax,ipF,Ay,As];done)|(simp_all [Ax,ipF,Ay,As];done)) ?_
 intro k0 hk0 s0 hi0 T hT;simp at hT;subst hT
 all_goals exact GA3
instance iP (l:List A0) (g:Nat) (cs:List AV) (p:A0→Bool) (pp:A0→Prop) [hv:VwC cs] [hi:∀y:A0,Ct cx g (.d (N1 y)::cs) (pp y) (dB' (p y))]:Ct cx 373 [.d (.sl false Ai ((l).map (A0.dd false))),.fn g cs] (∀y∈l,pp y) (dI' (CT l p)):=⟨fk1 func373,fun hq h=>ZX l g cs p pp hv hi hq h⟩
theorem fL (l:List Ac) (g:Nat) (cs:List AV) (p:Ac→Bool) (pp:Ac→Prop) (hv:VwC cs) (hi:∀y:Ac,Ct cx g (.d (dP y)::cs) (pp y) (dB' (p y))) (hq:∀y∈l,pp y) (h:HP):CS cx.P 382 [.d (.sl false BL ((l).map (Ac.dd false))),.fn g cs] h (dI' (CT l p)) h:=by
 refine Xe func382 rfl 19 [.tmp 4] ?_
 let M:List Nat:=[]
 let G:List Nat:=[]
 have H:=AN
 have hq2:∀k (hk:k<l.length),pp l[k]:=fun k hk=>hq _ (gm hk)
 replace H:=AI hv.all H
 repeat' (first|refine GO ?_|(refine Two.mk ?_ ?_<;>intro hb<;>(try simp at hb)<;>(try norm_cast at hb)<;>try replace H:=HN hb H)|(refine RG.mk ?_;(try clear hK hD);first|intro _ K hD hK|intro K hD hK)|(refine RF.mk ?_;intro hr)|(refine LF.mk ?_;(try clear hK hD);first|rfl|(simp[Ax,ipF,Ay,As, *];done)|(simp_all [Ax,ipF,Ay,As];done)|grind [Ax,ipF,Ay,As]))
 refine W.loopR [0,1,7] [] (fun k0 _=>[(8,dI' k0)]) (fun _ _=>[]) (l.length) (fun k0 _=>fs (ipF p) 0 l=fs (ipF p) k0 (l.drop k0)) (fun S=>()) rfl (by simp[H]) (by first|trivial|rfl|(simp;done)|(simp[Ax,ipF,Ay,As];done)|(simp_all [Ax,ipF,Ay,As];done)) ?_
 intro k0 hk0 s0 hi0 T hT;simp at hT;subst hT
 all_goals exact GA3
instance kO (l:List Ac) (g:Nat) (cs:List AV) (p:Ac→Bool) (pp:Ac→Prop) [hv:VwC cs] [hi:∀y:Ac,Ct cx g (.d (dP y)::cs) (pp y) (dB' (p y))]:Ct cx 382 [.d (.sl false BL ((l).map (Ac.dd false))),.fn g cs] (∀y∈l,pp y) (dI' (CT l p)):=⟨fk1 func382,fun hq h=>fL l g cs p pp hv hi hq h⟩
theorem MQ (l:List AC) (g:Nat) (cs:List AV) (p:AC→Bool) (pp:AC→Prop) [hv:VwC cs] [hi:∀y:AC,Ct cx g (.d (KR y)::cs) (pp y) (dB' (p y))] (hq:∀y∈l,pp y) (h:HP):CS cx.P 380 [.d (.sl false CL ((l).map (AC.dd false))),.fn g cs] h (dB' (l.any p)) h:=by
 refine Xe func380 rfl 9 [.tmp 4] ?_
 let M:List Nat:=[]
 let G:List Nat:=[]
 have H:=AN
 replace H:=AI hv.all H
 all_goals exact GA5
instance X5 (l:List AC) (g:Nat) (cs:List AV) (p:AC→Bool) (pp:AC→Prop) [hv:VwC cs] [hi:∀y:AC,Ct cx g (.d (KR y)::cs) (pp y) (dB' (p y))]:Ct cx 380 [.d (.sl false CL ((l).map (AC.dd false))),.fn g cs] (∀y∈l,pp y) (dB' (l.any p)):=⟨fk1 func380,fun hq h=>MQ l g cs p pp hq h⟩
theorem ag (l:List A0) (g:Nat) (cs:List AV) (p:A0→Bool) (pp:A0→Prop) [hv:VwC cs] [hi:∀y:A0,Ct cx g (.d (N1 y)::cs) (pp y) (dB' (p y))] (hq:∀y∈l,pp y) (h:HP):CS cx.P 313 [.d (.sl false Ai ((l).map (A0.dd false))),.fn g cs] h (dB' (l.any p)) h:=by
 refine Xe func313 rfl 9 [.tmp 4] ?_
 let M:List Nat:=[]
 let G:List Nat:=[]
 have H:=AN
 replace H:=AI hv.all H
 all_goals exact GA5
instance ia (l:List A0) (g:Nat) (cs:List AV) (p:A0→Bool) (pp:A0→Prop) [hv:VwC cs] [hi:∀y:A0,Ct cx g (.d (N1 y)::cs) (pp y) (dB' (p y))]:Ct cx 313 [.d (.sl false Ai ((l).map (A0.dd false))),.fn g cs] (∀y∈l,pp y) (dB' (l.any p)):=⟨fk1 func313,fun hq h=>ag l g cs p pp hq h⟩
