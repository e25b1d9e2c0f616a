/- Part 38. No condition. -/
import Derived.Test.YtdooklofebdknaaGreatM32
import Derived.Test.YtdooklofebdknaaGreatM35
namespace Go.Proofs.YtdooklofebdknaaGreat
open Go.RowKit Tryz
set_option linter.unusedVariables false
set_option maxRecDepth 10000
set_option linter.unusedSimpArgs false
set_option maxHeartbeats 4000000
theorem eg (l:List ByteArray):dst l=(List.range l.length).all (FE l):=rfl
instance gDst (l:List ByteArray):Ct cx 45 [.d (.sl false .one ((l).map (dS)))] (True) (.d (.lf (.bool (dst l)))):=by
 refine Xi func45 18 [.tmp 2] [] [] AN (AI @eg<|AI @Bb<|AI @BK<|@H8) ?_;intro hp h M G H E
 repeat' (first|(refine IN.mk ?_;intros)|(refine iTw ?_;refine T2 ?_ ?_<;>((try clear H);intro hb H)<;>try exact hb.elim)|(refine LF.mk ?_;exact LX)|refine GN ?_|(refine XC [0] [] 3 (l.length) (fun k0=>dst l=((List.range l.length).drop k0).all (FE l)) ?_;intro k0 hk0 hi0)|fail)
instance jC (l:List ByteArray) (most:Int):Ct cx 91 [.d (.sl false .one ((l).map (dS))),.d (.lf (.int .i64 (most)))] (True) (.d (.lf (.bool (CU l most)))):=by
 refine Xi func91 17 [.tmp 4] [] [] AN (@CU.eq_1) ?_;intro hp h M G H E
 exact GA1
instance gTv_i (k:Int) (n:ByteArray) (l:List A0):Ct cx 277 [.d (uK k n l)] (A0.sz ⟨k,n,l⟩≤134217728) (.d (.sl true .one (((tv ⟨k,n,l⟩)).map (dS)))):=⟨fk1 func277,fun hp h=>by have q:=ae ⟨k,n,l⟩ hp h;first|exact q|simpa using q⟩
instance gVT_i (k:Int) (n:ByteArray) (l:List A0):Ct cx 306 [.d (uK k n l)] (A0.sz ⟨k,n,l⟩≤134217728) (.d (.lf (.bool (Bx ⟨k,n,l⟩)))):=⟨fk1 func306,fun hp h=>by have q:=KW ⟨k,n,l⟩ hp h;first|exact q|simpa using q⟩
instance gPj_i (k:Int) (n:ByteArray) (l:List A0):Ct cx 231 [.d (uK k n l)] (A0.sz ⟨k,n,l⟩≤134217728) (.d (.lf (.bool (Bq ⟨k,n,l⟩)))):=⟨fk1 func231,fun hp h=>by have q:=af ⟨k,n,l⟩ hp h;first|exact q|simpa using q⟩
instance kE (k:Int) (n:ByteArray) (l:List A0):Ct cx 234 [.d (uK k n l)] (True) (.d (.lf (.bool (CJ ⟨k,n,l⟩)))):=⟨fk1 func234,fun hp h=>by have q:=Kg ⟨k,n,l⟩ h;first|exact q|simpa using q⟩
instance nG (v:ByteArray) (k:Int) (n:ByteArray) (l:List A0):Ct cx 233 [.d (.lf (.string (v))),.d (uK k n l)] (A0.sz ⟨k,n,l⟩≤134217728) (.d (.lf (.bool (decide (0<occ v ⟨k,n,l⟩))))):=⟨fk1 func233,fun hp h=>by have q:=KX v ⟨k,n,l⟩ hp h;first|exact q|simpa using q⟩
instance gFv_i (e:AG):Ct cx 308 [.d (IA e)] (e.sz≤134217728) (.d (.sl true .one (((fv e)).map (dS)))):=⟨fk1 func308,fun hp h=>by have q:=iQ e hp h;first|exact q|simpa using q⟩
instance gVX_i (e:AG):Ct cx 309 [.d (IA e)] (e.sz≤134217728) (.d (.lf (.bool (exV e)))):=⟨fk1 func309,fun hp h=>by have q:=S4 e hp h;first|exact q|simpa using q⟩
instance kH (e:AG):Ct cx 305 [.d (IA e)] (True) (.d (.lf (.bool (Dj e)))):=⟨fk1 func305,fun hp h=>by have q:=SL e h;first|exact q|simpa using q⟩
instance Qs (k:Int) (n:ByteArray) (l:List A0) (vars:List ByteArray):Ct cx 230 [.d (uK k n l),.d (.sl false .one ((vars).map (dS)))] (A0.sz ⟨k,n,l⟩≤134217728) (.d (.lf (.bool (Bl ⟨k,n,l⟩ vars)))):=by
 refine Xi func230 24 [.tmp 4] [] [] AN (AI @Bl.eq_1<|AI @sub.eq_1<|AI @Ca<|@Bp) ?_;intro hp h M G H E
 repeat' (first|(refine IN.mk ?_;intros)|(refine iTw ?_;refine T2 ?_ ?_<;>((try clear H);intro hb H)<;>try exact hb.elim)|(refine LF.mk ?_;exact LX)|refine GN ?_|(refine XC [1,2,5] [2] 6 ((tv ⟨k,n,l⟩).length) (fun k0=>sub (tv ⟨k,n,l⟩) vars= !(((tv ⟨k,n,l⟩).drop k0).any fun s=> !B6 vars s)) ?_;intro k0 hk0 hi0)|fail)
instance VU (l:List A0) (vars:List ByteArray):Ct cx 229 [.d (.sl false Ag ((l).map (A0.dd false))),.d (.sl false .one ((vars).map (dS)))] (∀y∈l,y.sz≤134217728) (.d (.lf (.bool (El l vars)))):=by
 refine Xi func229 19 [.tmp 4] [] [] AN (AI @El.eq_1<|AI @Ca<|@Bp) ?_;intro hp h M G H E
 have hpp:=fun k (h:k<l.length)=>hp _ (gm h);replace H:=AI hpp H
 repeat' (first|(refine IN.mk ?_;intros)|(refine iTw ?_;refine T2 ?_ ?_<;>((try clear H);intro hb H)<;>try exact hb.elim)|(refine LF.mk ?_;exact LX)|refine GN ?_|(refine XC [0,1] [] 5 (l.length) (fun k0=>El l vars= !((l.drop k0).any fun y=> !Bl y vars)) ?_;intro k0 hk0 hi0)|fail)
instance kK (e:AG) (vars:List ByteArray):Ct cx 235 [.d (IA e),.d (.sl false .one ((vars).map (dS)))] (e.sz≤134217728) (.d (.lf (.bool (body e vars)))):=by
 refine Xi func235 24 [.tmp 4] [] [] AN (AI @body.eq_1<|AI @sub.eq_1<|AI @Ca<|@Bp) ?_;intro hp h M G H E
 repeat' (first|(refine IN.mk ?_;intros)|(refine iTw ?_;refine T2 ?_ ?_<;>((try clear H);intro hb H)<;>try exact hb.elim)|(refine LF.mk ?_;exact LX)|refine GN ?_|(refine XC [1,2,5] [2] 6 ((fv e).length) (fun k0=>sub (fv e) vars= !(((fv e).drop k0).any fun s=> !B6 vars s)) ?_;intro k0 hk0 hi0)|fail)
instance gVB (b:A9):Ct cx 307 [.d (Dr b)] (b.AM.sz≤134217728) (.d (.lf (.bool (BU b.AK && Bx b.AM)))):=by
 refine Xi func307 11 [.tmp 2] [] [] AN trivial ?_;intro hp h M G H E
 exact GA1
instance jD (l:List A9) (vars:List ByteArray):Ct cx 232 [.d (.sl false BA ((l).map (A9.dd false))),.d (.sl false .one ((vars).map (dS)))] (∀y∈l,y.sz≤134217728) (.d (.lf (.bool (An l vars)))):=by
 refine Xi func232 39 [.tmp 4] [] [] AN (AI @An.eq_1<|AI @EZ.eq_1<|AI @Ca<|@Bp) ?_;intro hp h M G H E
 have hpp:∀k (h:k<l.length),(l[k]).AM.sz≤134217728:=fun k h=>by have:=hp _ (gm h);have:=(l[k]).sz_eq;unfold szs at this;omega
 replace H:=AI hpp H
 repeat' (first|exact true|(refine IN.mk ?_;intros)|(refine iTw ?_;refine T2 ?_ ?_<;>((try clear H);intro hb H)<;>try exact hb.elim)|(refine LF.mk ?_;exact LX)|refine BO.mk ?_ ?_|(apply iPJ;exact NPJ)|apply PXs.of|refine GN ?_|(refine XC [0,1] [] 5 (l.length) (fun k0=>(l.any fun b=>EZ b vars)=(l.drop k0).any fun b=>EZ b vars) ?_;intro k0 hk0 hi0)|fail)
def Gw (l:List A9) (b:A9):Bool:=l.any fun x=>eqG x b
def bhK (l:List A9) (b:A9) (k:Nat):Bool:=Gw (l.take k) b
theorem OB (l:List A9) (b:A9):bhK l b 0=false:=by simp[bhK,Gw]
theorem WT {l:List A9} {k:Nat} (b:A9) (h:k<l.length):bhK l b (k+1)=(bhK l b k||eqG l[k] b):=by
 unfold bhK Gw;rw[Y' h,List.any_append];simp
theorem Ie {l:List A9} {k:Nat} (b:A9) (h:l.length≤k):bhK l b k=Gw l b:=by unfold bhK;rw[List.take_of_length_le h]
def pj1 (k:Int) (n:ByteArray) (l:List A0) (o:List A9):List A9:=if h:k=3∧0<l.length then (if Gw o ⟨n,l[0]'h.2⟩=true then o else o++[⟨n,l[0]'h.2⟩]) else o
mutual
def pjT:A0→List A9→List A9
 |⟨k,n,l⟩,o=>HZ l (pj1 k n l o)
def HZ:List A0→List A9→List A9
 |[],o=>o
 |x::l,o=>HZ l (pjT x o)
end
theorem QG {k:Int} {n:ByteArray} {l:List A0} {o:List A9} (h:k=3) (hl:0<l.length) (e:Gw o ⟨n,l[0]⟩=true):pj1 k n l o=o:=by
 unfold pj1;rw[dif_pos ⟨h,hl⟩,if_pos e]
theorem QH {k:Int} {n:ByteArray} {l:List A0} {o:List A9} (h:k=3) (hl:0<l.length) (e:Gw o ⟨n,l[0]⟩=false):pj1 k n l o=o++[⟨n,l[0]⟩]:=by
 unfold pj1;rw[dif_pos ⟨h,hl⟩,if_neg (by rw[e];decide)]
theorem Uc {k:Int} {n:ByteArray} {l:List A0} {o:List A9} (h:¬(k=3∧0<l.length)):pj1 k n l o=o:=by
 unfold pj1;rw[dif_neg h]
theorem Gm (k:Int) (n:ByteArray) (l:List A0) (o:List A9):(pj1 k n l o).length≤o.length+1:=by
 unfold pj1
 split
 ·split<;>simp
 ·omega
mutual
theorem QE:∀(x:A0) (o:List A9),(pjT x o).length≤o.length+AQ x
 |⟨k,n,l⟩,o=>by
  have h1:=Ek l (pj1 k n l o)
  have h2:=Gm k n l o
  simp only[pjT,AQ];omega
theorem Ek:∀(l:List A0) (o:List A9),(HZ l o).length≤o.length+Ae l
 |[],o=>by simp[HZ]
 |x::l,o=>by
  have h1:=Ek l (pjT x o)
  have h2:=QE x o
  simp only[HZ,Ae];omega
end
def pjK (l:List A0) (o:List A9) (k:Nat):List A9:=HZ (l.take k) o
theorem Ub (l:List A0) (o:List A9):pjK l o 0=o:=by simp[pjK,HZ]
theorem N5:∀(a b:List A0) (o:List A9),HZ (a++b) o=HZ b (HZ a o)
 |[],_,_=>rfl
 |x::a,b,o=>by simp only[List.cons_append,HZ,N5 a b]
theorem Oe {l:List A0} {o:List A9} {k:Nat} (h:k<l.length):pjT l[k] (pjK l o k)=pjK l o (k+1):=by
 unfold pjK;rw[Y' h,N5];rfl
theorem LQ {k0:Int} {n:ByteArray} {l:List A0} {o:List A9} {k:Nat} (h:l.length≤k):pjK l (pj1 k0 n l o) k=pjT ⟨k0,n,l⟩ o:=by unfold pjK;rw[List.take_of_length_le h];simp only[pjT]
theorem J5 {l:List A0} {o:List A9} {k:Nat} (h:k<l.length):(pjK l o k).length+AQ l[k]≤o.length+Ae l:=by
 have h1:=Ek (l.take k) o
 have h3:=Bk (l.take (k+1)) (l.drop (k+1))
 rw[List.take_append_drop,Y' h,Bk] at h3
 simp only[Ae] at h3
 unfold pjK;omega
def EP (x:AJ):Bool:=(pjT x.B3 []).all fun b=>Gw x.Af b
def Sr (c:AA) (x:Ab):Bool:=decide (x.AY=c.A6) && decide (x.AZ.length=c.At.length)
def Sm (l:List AA) (k:Nat) (s:ByteArray):Bool:=(l.take k).any fun c=>decide (c.A6=s)
def G0 (l:List AA) (a:List Ab) (k:Nat) (c:AA):Bool:= !Sm l k c.A6 && decide (a.countP (Sr c)=1)
def Gz (d:AF) (a:List Ab):Bool:=decide (a.length=d.A4.length) && (fs (bad (G0 d.A4 a)) 0 d.A4).isNone
theorem Zy (c:AA) (x:Ab):Sr c x=(decide (x.AY=c.A6) && decide (x.AZ.length=c.At.length)):=rfl
theorem Dm {α:Type} (p:Nat→α→Bool) (i:Nat) (x:α):bad p i x=if p i x then none else some ():=rfl
theorem I4 {α:Type} (g:α→ByteArray) (s:ByteArray):∀(l:List α) (i:Nat),(fs (byF g s) i l).map Prod.fst=l.find? fun x=>decide (g x=s)
 |[],_=>rfl
 |x::l,i=>by
  rw[fs,List.find?_cons]
  unfold byF
  by_cases h:g x=s
  ·simp[h]
  ·simp only[h,if_false,decide_false];exact I4 g s l (i+1)
theorem Z2 (d:AF) (a:List Ab):Gz d a=JY d a:=by
 unfold Gz JY
 by_cases hl:a.length=d.A4.length
 ·rw[decide_eq_true hl,Bool.true_and,Bool.and_true,Bool.eq_iff_iff,Ou,Bool.and_eq_true,Lx,List.all_eq_true]
  have hdup:∀k (hk:k<d.A4.length),Sm d.A4 k d.A4[k].A6=false↔∀j (hj:j<k),¬(d.A4[j]'(by omega)).A6=d.A4[k].A6:=fun k hk=>by
   unfold Sm
   rw[List.any_eq_false]
   constructor
   ·intro h j hj
    have:=h d.A4[j] (List.mem_take_iff_getElem.2 ⟨j,by omega,rfl⟩)
    simpa using this
   ·intro h c hc
    obtain⟨j,hj,rfl⟩:=List.mem_take_iff_getElem.1 hc
    simpa using h j (by omega)
  have hnd:(∀i (h:i<(d.A4.map AA.A6).length),∀j (hj:j<i),¬(d.A4.map AA.A6)[j]=(d.A4.map AA.A6)[i])↔(d.A4.map AA.A6).Nodup:=by
   rw[List.nodup_iff_pairwise_ne,List.pairwise_iff_getElem]
   exact⟨fun h i j hi hj hij=>h j hj i hij,fun h i hi j hj=>h j i (by omega) hi hj⟩
  have hby:∀c:AA,c1 a c=true↔∃x,a.find? (fun x=>decide (x.AY=c.A6))=some x∧decide (x.AZ.length=c.At.length)=true:=fun c=>by
   have:=I4 Ab.AY c.A6 a 0
   unfold c1 byN
   cases h:fs (byF Ab.AY c.A6) 0 a with
   |none=>rw[h] at this;simp only[Option.map_none] at this;rw[←this];simp
   |some x=>rw[h] at this;simp only[Option.map_some] at this;rw[←this];simp
  simp only[hby]
  constructor
  ·intro h
   have h1:∀k (hk:k<d.A4.length),Sm d.A4 k d.A4[k].A6=false:=fun k hk=>by have:=h k hk;simp[G0] at this;exact this.1
   have h2:(∀i (h:i<(d.A4.map AA.A6).length),∀j (hj:j<i),¬(d.A4.map AA.A6)[j]=(d.A4.map AA.A6)[i]):=fun i hi j hj=>by
    simp only[List.length_map] at hi
    simpa using(hdup i hi).1 (h1 i hi) j hj
   refine⟨(VY AA.A6 Ab.AY (fun c x=>decide (x.AZ.length=c.At.length)) _ a (hnd.1 h2) hl).1 fun c hc=> ?_,h2⟩
   obtain⟨k,hk,rfl⟩:=List.getElem_of_mem hc
   have:=h k hk
   simp only[G0,Bool.and_eq_true,decide_eq_true_eq] at this
   exact this.2
  ·rintro ⟨h1,h2⟩ k hk
   have h3:=(VY AA.A6 Ab.AY (fun c x=>decide (x.AZ.length=c.At.length)) _ a (hnd.1 h2) hl).2 h1 _ (gm hk)
   have h4:Sm d.A4 k d.A4[k].A6=false:=(hdup k hk).2 fun j hj=>by
    have:=h2 k (by simpa using hk) j hj
    simpa using this
   simp only[G0,h4,Bool.not_false,Bool.true_and,decide_eq_true_eq]
   exact h3
 ·simp[hl]
def gN (f:A8→List ByteArray) (l:List A8) (k:Nat):List ByteArray:=(l.take k).flatMap f
def apB (a b:List ByteArray):List ByteArray:=a++b
def nT (p:A8):List ByteArray:=p.Ai.map AS.A6
def nD (p:A8):List ByteArray:=p.AE.map AF.A6
def nF (p:A8):List ByteArray:=p.Ac.map AL.A6
theorem Yv (f:A8→List ByteArray) (l:List A8):gN f l 0=[]:=rfl
theorem Gx (f:A8→List ByteArray) (l:List A8):gN f l l.length=l.flatMap f:=by unfold gN;rw[List.take_length]
theorem NR {f:A8→List ByteArray} {l:List A8} {k:Nat} (h:k<l.length):apB (gN f l k) (f l[k])=gN f l (k+1):=by
 unfold gN apB
 rw[Y' h,List.flatMap_append];simp
theorem DM {f:A8→List ByteArray} (hf:∀p,(f p).length≤p.sz) (l:List A8) (k:Nat):(gN f l k).length≤szL A8.sz l:=by
 have key:∀l:List A8,(l.flatMap f).length≤szL A8.sz l:=fun l=>by
  induction l with
  |nil=>simp
  |cons x l ih=>have:=hf x;simp only[List.flatMap_cons,List.length_append,szL];omega
 exact Nat.le_trans (key _) (E5 A8.sz l k)
theorem Ln {f:A8→List ByteArray} (hf:∀p,(f p).length≤p.sz) {l:List A8} {k:Nat} (h:k<l.length):(gN f l k).length+(f l[k]).length≤szL A8.sz l:=by
 have h1:=DM hf l (k+1)
 rw[←NR h] at h1
 unfold apB at h1
 rw[List.length_append] at h1;exact h1
theorem QQ (p:A8):(nT p).length≤p.sz:=by have:=p.sz_eq;unfold szs at this;unfold nT;simp;omega
theorem QS (p:A8):(nD p).length≤p.sz:=by have:=p.sz_eq;unfold szs at this;unfold nD;simp;omega
theorem QR (p:A8):(nF p).length≤p.sz:=by have:=p.sz_eq;unfold szs at this;unfold nF;simp;omega
theorem Nx (p:A8):(C7 p).length≤p.sz:=by have h:=Fs p.AE;have:=p.sz_eq;unfold szs at this;unfold C7;omega
theorem Jv {α:Type} (a:List ByteArray) (l:List α) (f:α→ByteArray):apB a (En l f 0)=a:=by unfold apB;rw[Ha,List.append_nil]
theorem a7 (a:List ByteArray) (p:A8):apB a (ctK p 0)=a:=by unfold apB;rw[W4,List.append_nil]
theorem Wm (a:List ByteArray) (p:A8) (k:Nat) (d:AF):apB a (ctD p k d 0)=apB a (ctK p k):=by rw[W6]
theorem Jw {α:Type} (a:List ByteArray) {l:List α} (f:α→ByteArray) {k:Nat} (h:k<l.length):(apB a (En l f k)).map dS++[.lf (.string (f l[k]))]=(apB a (En l f (k+1))).map dS:=by
 unfold apB;rw[List.map_append,List.append_assoc,Hb f h,List.map_append]
theorem a6 (a:List ByteArray) {p:A8} {k:Nat} {d:AF} {j:Nat} (h:j<d.A4.length):(apB a (ctD p k d j)).map dS++[.lf (.string d.A4[j].A6)]=(apB a (ctD p k d (j+1))).map dS:=by
 unfold apB;rw[List.map_append,List.append_assoc,W7 h,List.map_append]
theorem a5 (a:List ByteArray) {p:A8} {k:Nat} (h:k<p.AE.length):apB a (ctD p k p.AE[k] p.AE[k].A4.length)=apB a (ctK p (k+1)):=by rw[W8 h]
theorem HF (a b:List ByteArray):(apB a b).length=a.length+b.length:=by unfold apB;simp
def Ji (l:List A8) (k:Nat):List ByteArray:=if k=0 then l.flatMap nT else if k=1 then l.flatMap nD else if k=2 then l.flatMap C7 else l.flatMap nF
theorem W0 (l:List A8) (k:Nat):(Ji l k).length≤szL A8.sz l:=by
 unfold Ji
 repeat' split
 ·rw[←Gx];exact DM QQ l _
 ·rw[←Gx];exact DM QS l _
 ·rw[←Gx];exact DM Nx l _
 ·rw[←Gx];exact DM QR l _
def uq (l:List A8):Bool:=dst (l.flatMap nT) && dst (l.flatMap nD) && dst (l.flatMap C7) && dst (l.flatMap nF)
theorem bi {l:List A8} (h:∀j,j<4→dst (Ji l j)=true):uq l=true:=by
 have h0:=h 0 (by omega)
 have h1:=h 1 (by omega)
 have h2:=h 2 (by omega)
 have h3:=h 3 (by omega)
 simp[Ji] at h0 h1 h2 h3
 unfold uq;simp[h0,h1,h2,h3]
theorem gC {l:List A8} {j:Nat} (hj:j<4) (h:dst (Ji l j)=false):uq l=false:=by
 have:j=0∨j=1∨j=2∨j=3:=by omega
 unfold uq
 rcases this with q|q|q|q<;>subst q<;>simp[Ji] at h<;>simp[h]
theorem bc (x:A8):uq [x]=pk2 x:=by unfold uq pk2 nT nD nF;simp
theorem jM (l:List A8) (hl:l.length≤134217728) (hs:szL A8.sz l≤134217728) (h:HP):CS cx.P 124 [.d (.sl false Dt (l.map (A8.dd false)))] h (.d (.st [.sl true .one ((l.flatMap nT).map dS),.sl true .one ((l.flatMap nD).map dS),.sl true .one ((l.flatMap C7).map dS),.sl true .one ((l.flatMap nF).map dS)])) h:=by
 refine Ze func124 rfl 83 ?_
 apply Zr;intros
 refine Zo ?_;simp
 exact Zx
 apply Zr;intros
 refine WL.opArrZ rfl rfl (by simp) 180 rfl rfl rfl rfl rfl ?_;simp
 iterate 2 (refine Zo ?_;simp)
 exact Zx
 refine W.seq ?_
 apply Zr;intros
 iterate 3 (refine Zo ?_;simp)
 exact Zx
 refine W.block ?_
 refine W.loopk [2,3,15,16] [2] (fun k0=>[(17,.d (.lf (.int .i64 (k0:Int))))]) (fun k0=>[(3,.d (.st [.sl true .one ((gN nT l k0).map dS),.sl true .one ((gN nD l k0).map dS),.sl true .one ((gN C7 l k0).map dS),.sl true .one ((gN nF l k0).map dS)]))]) l.length rfl (by simp[Yv]) fun k0 hk0 T hT=> ?_
 simp at hT;subst hT
 apply Zr;intros
 refine Zo ?_;simp
 exact Zx
 refine Zv rfl ?_ ?_<;>intro hb0<;>try simp at hb0
 have hx:=B1 hb0 (by omega)
 have hy:=Ah A8.sz (gm hb0)
 have hy2:=l[k0].sz_eq;unfold szs at hy2
 have hgT:=Ln QQ hb0
 have hgD:=Ln QS hb0
 have hgC:=Ln Nx hb0
 have hgF:=Ln QR hb0
 have eT:(nT l[k0]).length=l[k0].Ai.length:=by unfold nT;simp
 have eD:(nD l[k0]).length=l[k0].AE.length:=by unfold nD;simp
 have eF:(nF l[k0]).length=l[k0].Ac.length:=by unfold nF;simp
 refine W.skip ?_
 refine Zb ?_
 apply Zr;intros
 refine Zo ?_ (by simp[hb0,hx]<;>omega);simp[hb0,hx]
 refine Zm [20] ?_ (by simp[hb0,hx]<;>omega);simp[hb0,hx]
 iterate 2 (refine Zo ?_ (by simp[hb0,hx]<;>omega);simp[hb0,hx])
 exact Zx
 refine W.seq ?_
 apply Zr;intros
 iterate 4 (refine Zo ?_ (by simp[hb0,hx]<;>omega);simp[hb0,hx])
 exact Zx
 refine W.block ?_
 refine W.loopk [2,3,5,15,16,17,22,23] [2,5] (fun k1=>[(24,.d (.lf (.int .i64 (k1:Int))))]) (fun k1=>[(3,.d (.st [.sl true .one ((apB (gN nT l k0) (En l[k0].Ai AS.A6 k1)).map dS),.sl true .one ((gN nD l k0).map dS),.sl true .one ((gN C7 l k0).map dS),.sl true .one ((gN nF l k0).map dS)]))]) l[k0].Ai.length rfl (by simp[Jv]) fun k1 hk1 T hT=> ?_
 simp at hT;subst hT
 have hl1:=Fc (l:=l[k0].Ai) AS.A6 hk1
 have hl1b:=HF (gN nT l k0) (En l[k0].Ai AS.A6 k1)
 apply Zr;intros
 refine Zo ?_ (by simp[hb0,hx]<;>omega);simp[hb0,hx]
 exact Zx
 refine Zv rfl ?_ ?_<;>intro hb1<;>try simp at hb1
 have hx1:=B1 hb1 (by omega)
 refine W.skip ?_
 refine Zb ?_
 apply Zr;intros
 refine Zo ?_ (by simp[hb0,hx,hb1,hx1]<;>omega);simp[hb0,hx,hb1,hx1]
 refine Zm [27] ?_ (by simp[hb0,hx,hb1,hx1]<;>omega);simp[hb0,hx,hb1,hx1]
 iterate 2 (refine Zo ?_ (by simp[hb0,hx,hb1,hx1]<;>omega);simp[hb0,hx,hb1,hx1])
 exact Zx
 apply Zs;intros
 refine WL.opArr rfl rfl (by simp) 180 _ _ rfl rfl rfl rfl (by simp) 0 rfl (by simp) (by decide) rfl rfl (fun off ho=>by simp[C8] at ho ⊢;subst ho;simp[Sh.ws,Sh.w,C8]) rfl ?_;simp[hb0,hx,hb1,hx1]
 refine Zm [29] ?_ (by simp[hb0,hx,hb1,hx1]<;>omega);simp[hb0,hx,hb1,hx1]
 iterate 4 (refine Zo ?_ (by simp[hb0,hx,hb1,hx1]<;>omega);simp[hb0,hx,hb1,hx1])
 refine WL.opArr rfl rfl (by simp) 180 _ _ rfl rfl rfl rfl (by simp) 0 rfl (by simp) (by decide) rfl rfl (fun off ho=>by simp[C8] at ho ⊢;subst ho;simp[Sh.ws,Sh.w,C8]) rfl ?_;simp[hb0,hx,hb1,hx1]
 refine Zo ?_ (by simp[hb0,hx,hb1,hx1]<;>omega);simp[hb0,hx,hb1,hx1]
 exact Zx
 apply Zs;intros
 iterate 2 (refine Zo ?_ (by simp[hb0,hx,hb1,hx1]<;>omega);simp[hb0,hx,hb1,hx1])
 exact Zx
 refine⟨hb1,Wz.to rfl rfl rfl ?_⟩
 have hs1:=Jw (gN nT l k0) AS.A6 hb1
 simp[hs1]
 have hkl:k1=l[k0].Ai.length:=by omega
 subst hkl
 have hT:apB (gN nT l k0) (l[k0].Ai.map AS.A6)=gN nT l (k0+1):=NR (f:=nT) hb0
 simp only[Em,hT]
 refine W.exit ?_
 refine W.seq ?_
 apply Zr;intros
 iterate 4 (refine Zo ?_ (by simp[hb0,hx]<;>omega);simp[hb0,hx])
 exact Zx
 refine W.block ?_
 refine W.loopk [2,3,5,15,16,17,37,38] [2,5] (fun k2=>[(39,.d (.lf (.int .i64 (k2:Int))))]) (fun k2=>[(3,.d (.st [.sl true .one ((gN nT l (k0+1)).map dS),.sl true .one ((apB (gN nD l k0) (En l[k0].AE AF.A6 k2)).map dS),.sl true .one ((apB (gN C7 l k0) (ctK l[k0] k2)).map dS),.sl true .one ((gN nF l k0).map dS)]))]) l[k0].AE.length rfl (by simp[Jv,a7]) fun k2 hk2 T hT=> ?_
 simp at hT;subst hT
 have hl2:=Fc (l:=l[k0].AE) AF.A6 hk2
 have hl2b:=HF (gN nD l k0) (En l[k0].AE AF.A6 k2)
 apply Zr;intros
 refine Zo ?_ (by simp[hb0,hx]<;>omega);simp[hb0,hx]
 exact Zx
 refine Zv rfl ?_ ?_<;>intro hb2<;>try simp at hb2
 have hx2:=B1 hb2 (by omega)
 have hs2:=Jw (gN nD l k0) AF.A6 hb2
 have hy3:=Ah AF.sz (gm hb2)
 have hy4:=l[k0].AE[k2].sz_eq;unfold szs at hy4
 have hcl:(ctK l[k0] k2).length≤l[k0].sz:=by have:=ZM l[k0] k2;omega
 have hcb:=HF (gN C7 l k0) (ctK l[k0] k2)
 have hgc:=DM Nx l k0
 refine W.skip ?_
 refine Zb ?_
 apply Zr;intros
 refine Zo ?_ (by simp[hb0,hx,hb2,hx2,hs2]<;>omega);simp[hb0,hx,hb2,hx2,hs2]
 refine Zm [42] ?_ (by simp[hb0,hx,hb2,hx2,hs2]<;>omega);simp[hb0,hx,hb2,hx2,hs2]
 iterate 2 (refine Zo ?_ (by simp[hb0,hx,hb2,hx2,hs2]<;>omega);simp[hb0,hx,hb2,hx2,hs2])
 exact Zx
 apply Zr;intros
 refine WL.opArr rfl rfl (by simp) 180 _ _ rfl rfl rfl rfl (by simp) 1 rfl (by simp) (by decide) rfl rfl (fun off ho=>by simp[C8] at ho ⊢;subst ho;simp[Sh.ws,Sh.w,C8]) rfl ?_;simp[hb0,hx,hb2,hx2,hs2]
 refine Zm [44] ?_ (by simp[hb0,hx,hb2,hx2,hs2]<;>omega);simp[hb0,hx,hb2,hx2,hs2]
 iterate 4 (refine Zo ?_ (by simp[hb0,hx,hb2,hx2,hs2]<;>omega);simp[hb0,hx,hb2,hx2,hs2])
 refine WL.opArr rfl rfl (by simp) 180 _ _ rfl rfl rfl rfl (by simp) 1 rfl (by simp) (by decide) rfl rfl (fun off ho=>by simp[C8] at ho ⊢;subst ho;simp[Sh.ws,Sh.w,C8]) rfl ?_;simp[hb0,hx,hb2,hx2,hs2]
 refine Zo ?_ (by simp[hb0,hx,hb2,hx2,hs2]<;>omega);simp[hb0,hx,hb2,hx2,hs2]
 exact Zx
 apply Zr;intros
 iterate 4 (refine Zo ?_ (by simp[hb0,hx,hb2,hx2,hs2]<;>omega);simp[hb0,hx,hb2,hx2,hs2])
 exact Zx
 refine W.block ?_
 refine W.loopk [2,3,5,15,16,17,37,38,39,51,52] [2,5] (fun k3=>[(53,.d (.lf (.int .i64 (k3:Int))))]) (fun k3=>[(3,.d (.st [.sl true .one ((gN nT l (k0+1)).map dS),.sl true .one ((apB (gN nD l k0) (En l[k0].AE AF.A6 (k2+1))).map dS),.sl true .one ((apB (gN C7 l k0) (ctD l[k0] k2 l[k0].AE[k2] k3)).map dS),.sl true .one ((gN nF l k0).map dS)]))]) l[k0].AE[k2].A4.length rfl (by simp[Wm,hs2]) fun k3 hk3 T hT=> ?_
 simp at hT;subst hT
 have hl3:=ZN hb2 hk3
 have hl3b:=HF (gN C7 l k0) (ctD l[k0] k2 l[k0].AE[k2] k3)
 apply Zr;intros
 refine Zo ?_ (by simp[hb0,hx,hb2,hx2,hs2]<;>omega);simp[hb0,hx,hb2,hx2,hs2]
 exact Zx
 refine Zv rfl ?_ ?_<;>intro hb3<;>try simp at hb3
 have hx3:=B1 hb3 (by omega)
 refine W.skip ?_
 refine Zb ?_
 apply Zr;intros
 refine Zo ?_ (by simp[hb0,hx,hb2,hx2,hs2,hb3,hx3]<;>omega);simp[hb0,hx,hb2,hx2,hs2,hb3,hx3]
 refine Zm [56] ?_ (by simp[hb0,hx,hb2,hx2,hs2,hb3,hx3]<;>omega);simp[hb0,hx,hb2,hx2,hs2,hb3,hx3]
 iterate 2 (refine Zo ?_ (by simp[hb0,hx,hb2,hx2,hs2,hb3,hx3]<;>omega);simp[hb0,hx,hb2,hx2,hs2,hb3,hx3])
 exact Zx
 apply Zs;intros
 refine WL.opArr rfl rfl (by simp) 180 _ _ rfl rfl rfl rfl (by simp) 2 rfl (by simp) (by decide) rfl rfl (fun off ho=>by simp[C8] at ho ⊢;subst ho;simp[Sh.ws,Sh.w,C8]) rfl ?_;simp[hb0,hx,hb2,hx2,hs2,hb3,hx3]
 refine Zm [58] ?_ (by simp[hb0,hx,hb2,hx2,hs2,hb3,hx3]<;>omega);simp[hb0,hx,hb2,hx2,hs2,hb3,hx3]
 iterate 4 (refine Zo ?_ (by simp[hb0,hx,hb2,hx2,hs2,hb3,hx3]<;>omega);simp[hb0,hx,hb2,hx2,hs2,hb3,hx3])
 refine WL.opArr rfl rfl (by simp) 180 _ _ rfl rfl rfl rfl (by simp) 2 rfl (by simp) (by decide) rfl rfl (fun off ho=>by simp[C8] at ho ⊢;subst ho;simp[Sh.ws,Sh.w,C8]) rfl ?_;simp[hb0,hx,hb2,hx2,hs2,hb3,hx3]
 refine Zo ?_ (by simp[hb0,hx,hb2,hx2,hs2,hb3,hx3]<;>omega);simp[hb0,hx,hb2,hx2,hs2,hb3,hx3]
 exact Zx
 apply Zs;intros
 iterate 2 (refine Zo ?_ (by simp[hb0,hx,hb2,hx2,hs2,hb3,hx3]<;>omega);simp[hb0,hx,hb2,hx2,hs2,hb3,hx3])
 exact Zx
 refine⟨hb3,Wz.to rfl rfl rfl ?_⟩
 have hs3:=a6 (gN C7 l k0) (p:=l[k0]) (k:=k2) hb3
 simp[hs3]
 have hkl:k3=l[k0].AE[k2].A4.length:=by omega
 subst hkl
 refine W.exit ?_
 apply Zs;intros
 iterate 2 (refine Zo ?_ (by simp[hb0,hx,hb2,hx2,hs2]<;>omega);simp[hb0,hx,hb2,hx2,hs2])
 exact Zx
 refine⟨hb2,Wz.to rfl rfl rfl ?_⟩
 have hs2:=a5 (gN C7 l k0) hb2
 simp[hs2]
 have hkl:k2=l[k0].AE.length:=by omega
 subst hkl
 have hD:apB (gN nD l k0) (l[k0].AE.map AF.A6)=gN nD l (k0+1):=NR (f:=nD) hb0
 have hC:=NR (f:=C7) hb0
 simp only[Em,hD,W5,hC]
 refine W.exit ?_
 apply Zr;intros
 iterate 4 (refine Zo ?_ (by simp[hb0,hx]<;>omega);simp[hb0,hx])
 exact Zx
 refine W.block ?_
 refine W.loopk [2,3,15,16,17,67,68] [2] (fun k4=>[(69,.d (.lf (.int .i64 (k4:Int))))]) (fun k4=>[(3,.d (.st [.sl true .one ((gN nT l (k0+1)).map dS),.sl true .one ((gN nD l (k0+1)).map dS),.sl true .one ((gN C7 l (k0+1)).map dS),.sl true .one ((apB (gN nF l k0) (En l[k0].Ac AL.A6 k4)).map dS)]))]) l[k0].Ac.length rfl (by simp[Jv]) fun k4 hk4 T hT=> ?_
 simp at hT;subst hT
 have hl4:=Fc (l:=l[k0].Ac) AL.A6 hk4
 have hl4b:=HF (gN nF l k0) (En l[k0].Ac AL.A6 k4)
 apply Zr;intros
 refine Zo ?_ (by simp[hb0,hx]<;>omega);simp[hb0,hx]
 exact Zx
 refine Zv rfl ?_ ?_<;>intro hb4<;>try simp at hb4
 have hx4:=B1 hb4 (by omega)
 refine W.skip ?_
 refine Zb ?_
 apply Zr;intros
 refine Zo ?_ (by simp[hb0,hx,hb4,hx4]<;>omega);simp[hb0,hx,hb4,hx4]
 refine Zm [72] ?_ (by simp[hb0,hx,hb4,hx4]<;>omega);simp[hb0,hx,hb4,hx4]
 iterate 2 (refine Zo ?_ (by simp[hb0,hx,hb4,hx4]<;>omega);simp[hb0,hx,hb4,hx4])
 exact Zx
 apply Zs;intros
 refine WL.opArr rfl rfl (by simp) 180 _ _ rfl rfl rfl rfl (by simp) 3 rfl (by simp) (by decide) rfl rfl (fun off ho=>by simp[C8] at ho ⊢;subst ho;simp[Sh.ws,Sh.w,C8]) rfl ?_;simp[hb0,hx,hb4,hx4]
 refine Zm [74] ?_ (by simp[hb0,hx,hb4,hx4]<;>omega);simp[hb0,hx,hb4,hx4]
 iterate 4 (refine Zo ?_ (by simp[hb0,hx,hb4,hx4]<;>omega);simp[hb0,hx,hb4,hx4])
 refine WL.opArr rfl rfl (by simp) 180 _ _ rfl rfl rfl rfl (by simp) 3 rfl (by simp) (by decide) rfl rfl (fun off ho=>by simp[C8] at ho ⊢;subst ho;simp[Sh.ws,Sh.w,C8]) rfl ?_;simp[hb0,hx,hb4,hx4]
 refine Zo ?_ (by simp[hb0,hx,hb4,hx4]<;>omega);simp[hb0,hx,hb4,hx4]
 exact Zx
 apply Zs;intros
 iterate 2 (refine Zo ?_ (by simp[hb0,hx,hb4,hx4]<;>omega);simp[hb0,hx,hb4,hx4])
 exact Zx
 refine⟨hb4,Wz.to rfl rfl rfl ?_⟩
 have hs4:=Jw (gN nF l k0) AL.A6 hb4
 simp[hs4]
 have hkl:k4=l[k0].Ac.length:=by omega
 subst hkl
 have hF:apB (gN nF l k0) (l[k0].Ac.map AL.A6)=gN nF l (k0+1):=NR (f:=nF) hb0
 simp only[Em,hF]
 refine W.exit ?_
 apply Zs;intros
 iterate 2 (refine Zo ?_ (by simp[hb0,hx]<;>omega);simp[hb0,hx])
 exact Zx
 refine⟨hb0,Wz.to rfl rfl rfl ?_⟩
 simp[hF]
 have hkl:k0=l.length:=by omega
 subst hkl
 simp only[Gx]
 refine W.exit ?_
 apply Zr;intros
 refine Zm [82] ?_;simp
 refine Zo ?_;simp
 exact Zx
 refine W.ret (Zq ?_)
 simp[f124]
theorem gE (l:List A8) (hl:l.length≤134217728) (hs:szL A8.sz l≤134217728) (h:HP):CS cx.P 71 [.d (.sl false Dt (l.map (A8.dd false)))] h (.d (.lf (.bool (uq l)))) h:=by
 have hdl:=W0 l
 refine Ze func71 rfl 14 ?_
 apply Zr;intros
 refine Zo ?_;simp
 exact Zx
 refine W.seq ?_
 apply Zr;intros
 refine Zo ?_;simp
 refine Zl [] rfl func124 (jM l hl hs _) ?_;simp
 refine Zo ?_;simp
 exact Zx
 refine W.block ?_
 refine W.loopI [6] [] (fun k0=>[(7,.d (.lf (.int .i64 (k0:Int))))]) (fun _=>[]) 4 (fun k0=>∀j,j<k0→dst (Ji l j)=true) rfl (by simp) (by simp) fun k0 hk0 hi0 T hT=> ?_
 simp at hT;subst hT
 apply Zr;intros
 refine Zo ?_;simp
 exact Zx
 refine Zv rfl ?_ ?_<;>intro hb0<;>try simp at hb0
 have hk4:k0<4:=by omega
 have hx:=B1 hk4 (by omega)
 have hdk:=hdl k0
 have hd9:([.sl false .one ((l.flatMap nT).map dS),.sl false .one ((l.flatMap nD).map dS),.sl false .one ((l.flatMap C7).map dS),.sl false .one ((l.flatMap nF).map dS)]:List DD)[k0]? =some (.sl false .one ((Ji l k0).map dS)):=by rcases(show k0=0∨k0=1∨k0=2∨k0=3 by omega) with q|q|q|q<;>subst q<;>simp[Ji]
 refine W.skip ?_
 refine Zb ?_
 apply Zr;intros
 refine WL.opArrV rfl rfl (by simp) 180 _ _ rfl rfl rfl rfl rfl rfl (by simp) (k0) rfl (by simp) (by omega) (by simp[DD.shs,DD.sh,List.replicate]) (d:=.sl false .one ((Ji l k0).map dS)) (by simpa using hd9) rfl ?_;simp[hx]
 refine Zo ?_ (by simp[hx]<;>omega);simp[hx]
 exact Zx
 apply Zr;intros
 refine Zo ?_ (by simp[hx]<;>omega);simp[hx]
 refine Zl [] rfl func49 (Lk (Ji l k0) (by omega) _) ?_ (by simp[hx]);simp[hx]
 refine Zo ?_ (by simp[hx]<;>omega);simp[hx]
 exact Zx
 refine Zc rfl ?_ ?_<;>intro hb1<;>try simp at hb1
 have hres:=gC hk4 (by simpa using hb1)
 apply Zr;intros
 refine Zo ?_ (by simp[hx]<;>omega);simp[hx]
 exact Zx
 refine W.ret (Zq ?_)
 simp[f71,hres]
 refine W.skip ?_
 apply Zs;intros
 iterate 2 (refine Zo ?_ (by simp[hx]<;>omega);simp[hx])
 exact Zx
 refine⟨hk4,FX hi0 (by simpa using hb1),Wz.to rfl rfl rfl ?_⟩
 simp
 have hkl:k0=4:=by omega
 subst hkl
 have hres:=bi hi0
 refine W.exit ?_
 apply Zr;intros
 refine Zo ?_;simp
 exact Zx
 refine W.ret (Zq ?_)
 simp[f71,hres]
instance jw (w : A1) (s : ByteArray) : Ct cx 202 [.d (As w), .d (.lf (.string (s))), .d (.sl true .one [])] (w.sz ≤ 134217728) (.d (.sl true .one (((Cb w s)).map (dS)))) := ⟨fk1 func202, fun hp h => by
 obtain⟨n,hn⟩:=RY w s
 have q:=cg w w.sz hp n s [] hn h
 rw[Wn] at q
 first|exact q|simpa using q⟩
theorem lw (w:A1) (s:ByteArray) (hp:w.sz≤134217728) (h:HP):CS cx.P 138 [.d ((w).dd false),.d (.lf (.string (s)))] h (.d (.sl true .one (((Cb w s)).map (dS)))) h:=by
 refine Xe func138 rfl 9 [.tmp 4] ?_
 let M:List Nat:=[7]
 let G:List Nat:=[7]
 have H:=AN
 exact GA4
instance lu (w:A1) (s:ByteArray):Ct cx 138 [.d (As w),.d (.lf (.string (s)))] (w.sz≤134217728) (.d (.sl true .one (((Cb w s)).map (dS)))):=⟨fk1 func138,fun hp h=>by have q:=lw w s hp h;first|exact q|simpa using q⟩
instance sAcy (w:A1):Ct cx 78 [.d (As w)] (w.sz≤134217728) (.d (.lf (.bool (Sy w)))):=by
 refine Xi func78 46 [.tmp 2] [] [] AN (AI @RZ<|AI @acP.eq_1<|AI @acT.eq_1<|AI @Bb<|@BK) ?_;intro hp h M G H E
 have hal:=fun s=>Nat.le_trans (Ev w s) hp
 replace H:=AI hal H
 repeat' (first|(refine IN.mk ?_;intros)|(refine iTw ?_;refine T2 ?_ ?_<;>((try clear H);intro hb H)<;>try exact hb.elim)|(refine LF.mk ?_;exact LX)|refine GN ?_|(refine XC [1] [1] 3 (w.A2.length) (fun k0=>w.A2.all (acP w)=(w.A2.drop k0).all (acP w)) ?_;intro k0 hk0 hi0)|(refine XC [1,3] [1] 4 (w.A2[k0].Ai.length) (fun k1=>acP w w.A2[k0]=(w.A2[k0].Ai.drop k1).all (acT w)) ?_;intro k1 hk1 hi1)|fail)
instance sOrph (w:A1) (o:A3):Ct cx 141 [.d (As w),.d (FR o)] (w.sz≤134217728∧inR w o) (.d (.lf (.bool (Fa w o)))):=by
 refine Xi func141 42 [.tmp 4] [] [] AN (@Fa.eq_1) ?_;intro hp h M G H E
 have hip:=hp.2;replace H:=AI hip H
 exact GA1
theorem cw (w:A1) (i:Int) (hp:w.sz≤134217728):∀(n:Nat) (x:A0),AQ x<n→∀h:HP,CS cx.P 97 [.d ((w).dd false),.d (.lf (.int .i64 (i))),.d ((x).dd false)] h (.d (.lf (.int .i64 (ckT w (vis w i) x)))) h:=by
 intro n
 induction n with
 |zero=>intro x hx;omega
 |succ n ih=>
 intro x hx h
 have hsx:Ae x.AB<n:=by have:=BE x;omega
 have gx:=@Bo
 have ii:∀(k:Int) (s:ByteArray) (l:List A0),Ct cx 97 [.d (As w),.d (.lf (.int .i64 (i))),.d (uK k s l)] (AQ ⟨k,s,l⟩<n) (.d (.lf (.int .i64 (ckT w (vis w i) ⟨k,s,l⟩)))):=fun k s l=>⟨fk1 func97,fun hp h=>by have q:=ih ⟨k,s,l⟩ hp h;first|exact q|simpa using q⟩
 refine Xe func97 rfl 33 [.tmp 6] ?_
 let M:List Nat:=[]
 let G:List Nat:=[]
 have H:=AN
 repeat' (first|refine GO ?_|(refine Two.mk ?_ ?_<;>intro hb<;>(try simp at hb)<;>(try norm_cast at hb)<;>try replace H:=HN hb H)|(refine RG.mk ?_;(try clear hK hD);first|intro _ K hD hK|intro K hD hK)|(refine RF.mk ?_;intro hr)|(refine LF.mk ?_;(try clear hK hD);first|rfl|(simp[ED,BN,Ax, *];done)|(simp_all [ED,BN,Ax];done)|grind [ED,BN,Ax]))
 refine W.loopR [1,3,5] [3,5] (fun k0 s0=>[(8,.d (.lf (.int .i64 (k0:Int)))),(7,.d (.lf (.int .i64 (s0))))]) (fun _ _=>[]) (x.AB.length) (fun k0 s0=>ckT w (vis w i) x=if s0=0 then fc (ckT w (vis w i)) (x.AB.drop k0) else s0) (fun S=>avI (S.tm 7)) rfl (by simp) (by first|trivial|rfl|(simp;done)|(simp[ED,BN,Ax];done)|(simp_all [ED,BN,Ax];done)) ?_
 intro k0 hk0 s0 hi0 T hT;simp at hT;subst hT
 repeat' (first|refine GO ?_|(refine Two.mk ?_ ?_<;>intro hb<;>(try simp at hb)<;>(try norm_cast at hb)<;>try replace H:=HN hb H)|(refine RG.mk ?_;(try clear hK hD);first|intro _ K hD hK|intro K hD hK)|(refine RF.mk ?_;intro hr)|(refine LF.mk ?_;(try clear hK hD);first|rfl|(simp[ED,BN,Ax, *];done)|(simp_all [ED,BN,Ax];done)|grind [ED,BN,Ax]))
theorem cv (w:A1) (i:Int) (x:A0) (hp:w.sz≤134217728) (h:HP):CS cx.P 97 [.d ((w).dd false),.d (.lf (.int .i64 (i))),.d ((x).dd false)] h (.d (.lf (.int .i64 (ckT w (vis w i) x)))) h:=cw w i hp _ x (Nat.lt_succ_self _) h
instance lk (w:A1) (i:Int) (k:Int) (s:ByteArray) (l:List A0):Ct cx 97 [.d (As w),.d (.lf (.int .i64 (i))),.d (uK k s l)] (w.sz≤134217728) (.d (.lf (.int .i64 (ckT w (vis w i) ⟨k,s,l⟩)))):=⟨fk1 func97,fun hp h=>by have q:=cv w i ⟨k,s,l⟩ hp h;first|exact q|simpa using q⟩
instance sCkB (w:A1) (i:Int) (b:A9):Ct cx 168 [.d (As w),.d (.lf (.int .i64 (i))),.d (Dr b)] (w.sz≤134217728) (.d (.lf (.int .i64 (ckB w (vis w i) b)))):=by
 refine Xi func168 24 [.tmp 6] [] [] AN (@ckB.eq_1) ?_;intro hp h M G H E
 exact GA0
instance lS (w:A1) (i:Int) (l:List A0):Ct cx 96 [.d (As w),.d (.lf (.int .i64 (i))),.d (.sl false Ag ((l).map (A0.dd false)))] (w.sz≤134217728) (.d (.lf (.int .i64 (fc (ckT w (vis w i)) l)))):=by
 refine Xi func96 25 [.tmp 6] [] [] AN (AI @BN<|@Ax) ?_;intro hp h M G H E
 repeat' (first|(refine IN.mk ?_;intros)|(refine iTw ?_;refine T2 ?_ ?_<;>((try clear H);intro hb H)<;>try exact hb.elim)|(refine LF.mk ?_;exact LX)|refine GN ?_|(refine XC [1,2,3] [3] 7 (l.length) (fun k0=>fc (ckT w (vis w i)) l=fc (ckT w (vis w i)) (l.drop k0)) ?_;intro k0 hk0 hi0)|fail)
instance lN (w:A1) (i:Int) (l:List A9):Ct cx 99 [.d (As w),.d (.lf (.int .i64 (i))),.d (.sl false BA ((l).map (A9.dd false)))] (w.sz≤134217728) (.d (.lf (.int .i64 (fc (ckB w (vis w i)) l)))):=by
 refine Xi func99 25 [.tmp 6] [] [] AN (AI @BN<|@Ax) ?_;intro hp h M G H E
 repeat' (first|(refine IN.mk ?_;intros)|(refine iTw ?_;refine T2 ?_ ?_<;>((try clear H);intro hb H)<;>try exact hb.elim)|(refine LF.mk ?_;exact LX)|refine GN ?_|(refine XC [1,2,3] [3] 7 (l.length) (fun k0=>fc (ckB w (vis w i)) l=fc (ckB w (vis w i)) (l.drop k0)) ?_;intro k0 hk0 hi0)|fail)
instance UK (l:List Int):Ct cx 95 [.d (.sl false .one ((l).map (dI)))] (True) (.d (.lf (.int .i64 (fc (fun n=>n) l)))):=by
 refine Xi func95 19 [.tmp 2] [] [] AN (AI @BN<|@Ax) ?_;intro hp h M G H E
 repeat' (first|(refine IN.mk ?_;intros)|(refine iTw ?_;refine T2 ?_ ?_<;>((try clear H);intro hb H)<;>try exact hb.elim)|(refine LF.mk ?_;exact LX)|refine GN ?_|(refine XC [0] [] 3 (l.length) (fun k0=>fc (fun n:Int=>n) l=fc (fun n=>n) (l.drop k0)) ?_;intro k0 hk0 hi0)|fail)
theorem I3 {α:Type} (g:α→ByteArray) (s:ByteArray):∀(l:List α) (i:Nat),(fs (byF g s) i l).isSome=l.any fun x=>decide (g x=s)
  |[],_=>rfl
  |x::l,i=>by
    rw[fs,List.any_cons]
    unfold byF
    by_cases h:g x=s
    · simp[h]
    · simp only[h,if_false,decide_false,Bool.false_or];exact I3 g s l (i+1)
theorem Yu {α:Type} (z:α):∀o:Option (α×Nat),(DW z o).2.2=o.isSome
  |some (_,_)=>rfl
  |none=>rfl
theorem YP (x:AJ) (s:ByteArray):(meR x s).2.2=x.Ap.any fun m=>decide (m.A6=s):=by
  unfold meR byN;rw[Yu,I3]
instance lh (w:A1) (i:Int) (d:AF):Ct cx 41 [.d (As w),.d (.lf (.int .i64 (i))),.d (Rl d)] (w.sz≤134217728) (.d (.lf (.int .i64 (Fl w (vis w i) d)))):=by
 refine Xi func41 28 [.tmp 6] [] [] AN (AI @Fl.eq_1<|AI @BN<|@Ax) ?_;intro hp h M G H E
 repeat' (first|(refine IN.mk ?_;intros)|(refine iTw ?_;refine T2 ?_ ?_<;>((try clear H);intro hb H)<;>try exact hb.elim)|(refine LF.mk ?_;exact LX)|refine GN ?_|(refine XC [1,3,5] [3,5] 7 (d.A4.length) (fun k0=>Fl w (vis w i) d=fc (fun c:AA=>fc (ckT w (vis w i)) c.At) (d.A4.drop k0)) ?_;intro k0 hk0 hi0)|fail)
def m3 (s:ByteArray) (m:AX):Bool:=decide (m.A6=s)
theorem io (x:AJ) (g:AC):m2 x g=(g.BR||x.Ap.any (m3 g.A6)):=by unfold m2;rw[YP];rfl
instance cq (t:AS) (x:AJ):Ct cx 100 [.d (K5 t),.d (E4 x)] (t.sz≤134217728) (.d (.lf (.bool (Cv t x)))):=by
 refine Xi func100 83 [.tmp 4] [] [] AN (AI @JH<|AI @m1.eq_1<|AI @io<|AI @m3.eq_1<|AI @Ca<|AI @Bp<|AI @Bb<|@BK) ?_;intro hp h M G H E
 have hsw:=@Po t hp;replace H:=AI hsw H
 repeat' (first|exact true|(refine IN.mk ?_;intros)|(refine iTw ?_;refine T2 ?_ ?_<;>((try clear H);intro hb H)<;>try exact hb.elim)|(refine LF.mk ?_;exact LX)|refine BO.mk ?_ ?_|(apply iPJ;exact NPJ)|apply PXs.of|refine GN ?_|(refine XC [2,3] [2,3] 5 (x.Ap.length) (fun k0=>x.Ap.all (m1 t)=(x.Ap.drop k0).all (m1 t)) ?_;intro k0 hk0 hi0)|(refine XC [2,3] [2,3] 8 (t.AU.length) (fun k1=>x.Ap.all (m1 t)=true∧t.AU.all (m2 x)=(t.AU.drop k1).all (m2 x)) ?_;intro k1 hk1 hi1)|(refine XL [2,3,8] [2,3] (fun k2 s2=>[(10,.d (.lf (.int .i64 (k2:Int)))),(9,.d (.lf (.bool (s2))))]) (fun _ _=>[]) (x.Ap.length) (fun k2 s2=>m2 x t.AU[k1]=(s2||(x.Ap.drop k2).any (m3 t.AU[k1].A6))) (fun S=>avB (S.tm 9)) ?_;intro k2 hk2 s2 hi2)|fail)
theorem V6 (r:Int):(if r=0 then 0 else r)=r:=by split<;>simp_all
instance fg (a b:Int):Ct cx 95 [.d (.sl false .one [.lf (.int .i64 a),.lf (.int .i64 b)])] (True) (.d (.lf (.int .i64 (or0 a b)))):=⟨fk1 func95,fun hp h=>by have q:=(UK [a,b]).cs trivial h;first|exact q|simpa[fc,or0,dI,V6] using q⟩
instance ff (a b c:Int):Ct cx 95 [.d (.sl false .one [.lf (.int .i64 a),.lf (.int .i64 b),.lf (.int .i64 c)])] (True) (.d (.lf (.int .i64 (or0 a (or0 b c))))):=⟨fk1 func95,fun hp h=>by have q:=(UK [a,b,c]).cs trivial h;first|exact q|simpa[fc,or0,dI,V6] using q⟩
instance k9 (w : A1) (s : ByteArray) : Ct cx 210 [.d (As w), .d (.sl true .one []), .d (.lf (.string (s)))] (w.sz ≤ 134217728) (.d (.sl true .one (((Cb w s)).map (dS)))) := ⟨fk1 func210, fun hp h => by
 obtain⟨n,hn⟩:=RY w s
 have q:=dp w w.sz hp n s [] hn h
 rw[Wn] at q
 first|exact q|simpa using q⟩
theorem mm (w:A1) (s:ByteArray) (hp:w.sz≤134217728) (h:HP):CS cx.P 146 [.d ((w).dd false),.d (.lf (.string (s)))] h (.d (.sl true .one (((Cb w s)).map (dS)))) h:=by
 refine Xe func146 rfl 8 [.tmp 4] ?_
 let M:List Nat:=[]
 let G:List Nat:=[]
 have H:=AN
 exact GA4
instance ml (w:A1) (s:ByteArray):Ct cx 146 [.d (As w),.d (.lf (.string (s)))] (w.sz≤134217728) (.d (.sl true .one (((Cb w s)).map (dS)))):=⟨fk1 func146,fun hp h=>by have q:=mm w s hp h;first|exact q|simpa using q⟩
instance iAcy (w:A1):Ct cx 82 [.d (As w)] (w.sz≤134217728) (.d (.lf (.bool (Sy w)))):=by
 refine Xi func82 30 [.tmp 2] [13,20] [] AN (AI @RZ<|AI @acP.eq_1<|AI @acT.eq_1<|AI @Bb<|@BK) ?_;intro hp h M G H E
 have hal:=fun s=>Nat.le_trans (Ev w s) hp
 replace H:=AI hal H
 repeat' (first|(refine IN.mk ?_;intros)|(refine iTw ?_;refine T2 ?_ ?_<;>((try clear H);intro hb H)<;>try exact hb.elim)|(refine LF.mk ?_;exact LX)|refine GN ?_|(refine XC [1,8,9] [1] 10 (w.A2.length) (fun k0=>w.A2.all (acP w)=(w.A2.drop k0).all (acP w)) ?_;intro k0 hk0 hi0)|(refine XC [1,8,9,10,15,16] [1] 17 (w.A2[k0].Ai.length) (fun k1=>acP w w.A2[k0]=(w.A2[k0].Ai.drop k1).all (acT w)) ?_;intro k1 hk1 hi1)|fail)
def Ua (y:A0) (o:List A9):List A9:=pj1 y.AH y.A6 y.AB o
mutual
theorem Lv:∀(x:A0) (o:List A9),ev Ua x o=pjT x o
 |⟨k,n,l⟩,o=>by simp only[ev,Qy l,pjT,Ua]
theorem Qy:∀(l:List A0) (o:List A9),evs Ua l o=HZ l o
 |[],o=>rfl
 |x::l,o=>by simp only[evs,HZ,Lv x,Qy l]
end
theorem YB (y:A0) (o:List A9):(Ua y o).length≤o.length+1:=Gm _ _ _ _
theorem Yt (l:List A9) (g:A9):(l.any fun y=>eqG y g)=Gw l g:=rfl
