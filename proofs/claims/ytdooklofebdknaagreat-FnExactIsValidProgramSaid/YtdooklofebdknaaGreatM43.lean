/- Part 43. No condition. -/
import Derived.Test.YtdooklofebdknaaGreatM42
namespace Go.Proofs.YtdooklofebdknaaGreat
open Go.RowKit Tryz
set_option linter.unusedVariables false
set_option maxRecDepth 10000
set_option linter.unusedSimpArgs false
set_option maxHeartbeats 4000000
def ieV (w:A1) (F:List AD) (N:Nat) (g:A9) (b:A9):A7:=(sol w F N (whF (whS w (sel w g).1 g) b)).1
def ieC (w:A1) (F:List AD) (N:Nat) (g:A9) (b:A9):Int:=(sol w F N (whF (whS w (sel w g).1 g) b)).2
section
variable {w:A1} {F:List AD} {N:Nat} {g:A9}
theorem VE (h:¬(sel w g).2=0):inE w (sol w F N) g=(⟨0,0,⟨0,0⟩,[]⟩,(sel w g).2):=by unfold inE;rw[if_neg h]
theorem Qe (h:(sel w g).2=0) (h2:fc (ieC w F N g) (Am w (sel w g).1).Af=0):inE w (sol w F N) g=(⟨1,0,(sel w g).1,(Am w (sel w g).1).Af.map (ieV w F N g)⟩,0):=by
 unfold inE inL;rw[if_pos h]
 exact if_pos h2
theorem Qf (h:(sel w g).2=0) {c:Int} (h2:fc (ieC w F N g) (Am w (sel w g).1).Af=c) (h3:¬c=0):inE w (sol w F N) g=(⟨0,0,⟨0,0⟩,[]⟩,c):=by
 subst h2
 unfold inE inL;rw[if_pos h]
 exact if_neg h3
theorem Pm (h:0≤fAi F g):sol w F N g=(apS ⟨2,(fAa F g).Es,⟨0,0⟩,[]⟩ (fAa F g).DX,0):=by
 cases N<;>simp only[sol]<;>rw[if_pos h]
theorem aX (h:fAi F g<0):sol w F 0 g=(⟨0,0,⟨0,0⟩,[]⟩,3):=by simp only[sol];rw[if_neg (by omega)]
theorem ab (h:fAi F g<0) (h2:(trR w g.AK).1.CP=true) (h3:au w F g.AK 32 g.AM []=0):sol w F (N+1) g=(⟨5,0,⟨0,0⟩,[]⟩,0):=by simp only[sol];rw[if_neg (by omega),if_pos h2,if_pos h3]
theorem aZ (h:fAi F g<0) (h2:(trR w g.AK).1.CP=true) (h3:¬au w F g.AK 32 g.AM []=0):sol w F (N+1) g=(⟨0,0,⟨0,0⟩,[]⟩,au w F g.AK 32 g.AM []):=by simp only[sol];rw[if_neg (by omega),if_pos h2,if_neg h3]
theorem aY (h:fAi F g<0) (h2:(trR w g.AK).1.CP=false) (h3:g.AM.AH=1∨g.AM.AH=3):sol w F (N+1) g=(⟨0,0,⟨0,0⟩,[]⟩,1):=by simp only[sol];rw[if_neg (by omega),if_neg (by rw[h2];decide),if_pos h3]
theorem U7 (h:fAi F g<0) (h2:(trR w g.AK).1.CP=false) (h3:¬g.AM.AH=1∧¬g.AM.AH=3) (h4:g.AM.AH=4) (h5:(pth w g.AK 8 g.AM.A6).isSome=true):sol w F (N+1) g=(apS ⟨4,0,⟨0,0⟩,[]⟩ (((pth w g.AK 8 g.AM.A6).getD []).map fun (n:Nat)=>(n:Int)),0):=by
 simp only[sol];rw[if_neg (by omega),if_neg (by rw[h2];decide),if_neg (by omega),if_pos ⟨h4,h5⟩]
theorem Mr (h:fAi F g<0) (h2:(trR w g.AK).1.CP=false) (h3:¬g.AM.AH=1∧¬g.AM.AH=3) (h4:g.AM.AH=4→(pth w g.AK 8 g.AM.A6).isSome=false):sol w F (N+1) g=inE w (sol w F N) g:=by
 simp only[sol];rw[if_neg (by omega),if_neg (by rw[h2];decide),if_neg (by omega),if_neg]
 rintro ⟨a,b⟩
 rw[h4 a] at b;exact absurd b (by decide)
end
theorem OA {s:ByteArray} {l:List UInt8} (h:s.toList=l):s=⟨l.toArray⟩:=by
 rw[Go.ByteArray.toList_eq] at h
 cases s
 simp only at h
 subst h
 simp
theorem Zt {s:ByteArray} (h:BU s=true):Cp s=false:=by
 unfold BU at h
 simp only[Bool.and_eq_true,Bool.not_eq_true'] at h
 cases hb:Cp s with
 |false=>rfl
 |true=>
  unfold Cp at hb
  simp only[Bool.or_eq_true,beq_iff_eq] at hb
  have hm:B6 rsv s=true:=by
   rw[Dg]
   rcases hb with hb|hb
   ·have:=OA hb
    subst this;simp[rsv]
   ·have:=OA hb
    subst this;simp[rsv]
  rw[hm] at h;simp at h
mutual
theorem QP:∀x:A0,CL x=true→nb x
 |⟨k,n,l⟩,h=>by
  simp only[CL,Bool.and_eq_true] at h
  simp only[nb]
  refine⟨fun hk hb=> ?_,NC l h.2⟩
  have h1:=h.1
  subst hk
  have h2:BU n=false:=by
   cases hq:BU n with
   |false=>rfl
   |true=>rw[Zt hq] at hb;cases hb
  simp[Cc,h2,hb] at h1
  exact h1
theorem NC:∀l:List A0,DU l=true→nbs l
 |[],_=>trivial
 |x::l,h=>by
  simp only[DU,Bool.and_eq_true] at h
  simp only[nbs];exact⟨QP x h.1,NC l h.2⟩
end
mutual
theorem Td:∀(x:A0) (o:List ByteArray),o.Nodup→(tvs x o).Nodup
 |⟨k,n,l⟩,o,h=>by
  simp only[tvs]
  refine Pa l _ ?_
  unfold tvS
  split
  ·rename_i e
   refine List.nodup_append.2 ⟨h,by simp,fun a ha b hb q=> ?_⟩
   simp only[List.mem_singleton] at hb;subst hb;subst q
   exact e.2 (Dg.2 ha)
  ·exact h
theorem Pa:∀(l:List A0) (o:List ByteArray),o.Nodup→(CC l o).Nodup
 |[],o,h=>by simpa[CC] using h
 |x::l,o,h=>by simp only[CC];exact Pa l _ (Td x o h)
end
theorem XW {l V:List ByteArray} (h:sub l V=true):∀v∈l,v∈V:=by
 intro v hv
 unfold sub at h
 simp only[Bool.not_eq_true',List.any_eq_false] at h
 have:=h v hv
 simp only[Bool.not_eq_true',Bool.not_eq_false] at this
 exact Dg.1 (by simpa using this)
theorem LS {x:A0} {V:List ByteArray} (h:Bl x V=true) (hz:x.sz≤134217728):GU V x∧AQ x≤60∧(tv x).length≤V.length:=by
 unfold Bl at h
 simp only[Bool.and_eq_true] at h
 have hs:=XW h.2
 have h1:=h.1
 unfold Bx at h1
 simp only[Bool.and_eq_true,decide_eq_true_eq] at h1
 exact⟨⟨CK hz,QP x h1.1.1,Dz hs (HQ x)⟩,h1.2,Bu (Td x [] (by simp)) hs⟩
theorem HO {l:List ByteArray} {n:Int} (h:CU l n=true):(l.length:Int)≤n:=by
 unfold CU at h
 simp only[Bool.and_eq_true,decide_eq_true_eq] at h
 exact h.1.1
theorem Jx {α:Type} {l:List α} {p:α→Bool} (h:(!l.any p)=true) {x:α} (hx:x∈l):p x=false:=by
 simp only[Bool.not_eq_true',List.any_eq_false] at h
 simpa using h x hx
theorem Uk {w:A1} (h:feE w=[]) {p:A8} (hp:p∈w.A2):Ey p=true:=by
 unfold feE at h
 split at h
 ·rename_i hd
  rw[Nv] at hd
  simp only[Bool.and_eq_true] at hd
  obtain⟨k,hk,rfl⟩:=List.getElem_of_mem hp
  have:=Ou.1 hd.1 k hk
  unfold dpF DR at this
  simp only[Bool.and_eq_true] at this
  exact this.1.2
 ·simp at h
theorem Oj {w:A1} (h:feE w=[]) {o:A3} (ho:inR w o):instOk (Am w o)=true:=by
 obtain⟨i,k,hi,hk,rfl⟩:=ho
 rw[DZ hi hk]
 have h1:=Uk h (gm hi)
 unfold Ey at h1
 simp only[Bool.and_eq_true] at h1
 simpa using Jx h1.1.2 (gm hk)
theorem QL {w:A1} (h:feE w=[]) (s:ByteArray):(daR w s).1=zDa∨D2 (daR w s).1=true:=by
 unfold daR
 cases hq:inP A8.AE AF.A6 w s with
 |none=>exact .inl rfl
 |some x=>
  obtain⟨d,i⟩:=x
  right
  obtain⟨⟨p,hp,hd⟩, -⟩:=Lh hq
  have h1:=Uk h hp
  unfold Ey at h1
  simp only[Bool.and_eq_true] at h1
  have h2:(!D2 d)=false:=Jx h1.1.1.2 hd
  show D2 d=true
  simpa using h2
theorem aL {w:A1} (hz:w.sz≤16777216) (h:feE w=[]):vP w where
 sz:=hz
 da:=fun s c f hc hf=>by
  have hs:=P4 w s
  rcases QL h s with e|e
  ·rw[e] at hc;simp[zDa] at hc
  ·unfold D2 at e
   simp only[Bool.and_eq_true] at e
   have h1:=Jx e.1.1.1.1 hc
   unfold I8 El at h1
   simp only[Bool.or_eq_false_iff,Bool.not_eq_false'] at h1
   have h2:=Jx h1.2 hf
   have hd:=(daR w s).1.sz_eq;unfold szs at hd
   have hcz:=Ah AA.sz hc
   have hce:=c.sz_eq;unfold szs at hce
   have hfz:=Ah A0.sz hf
   exact(LS (by simpa using h2) (by omega)).1
 dv:=fun s=>by
  rcases QL h s with e|e
  ·rw[e];simp[zDa]
  ·unfold D2 at e
   simp only[Bool.and_eq_true] at e
   have:=HO e.1.1.2;omega
 hd:=fun o ho=>by
  have hs:=C9 ho
  have e:=Oj h ho
  unfold instOk inst1 at e
  simp only[Bool.and_eq_true] at e
  have hx:=(Am w o).sz_eq;unfold szs at hx
  have h1:=LS e.1.1.1.1.1.1.1.2 (by omega)
  have h2:=HO e.1.1.1.1.1.1.1.1.2
  exact⟨⟨h1.2.1,by have:=h1.2.2;omega⟩,h1.1⟩
 iv:=fun o ho=>by
  have e:=Oj h ho
  unfold instOk inst1 at e
  simp only[Bool.and_eq_true] at e
  have h2:=HO e.1.1.1.1.1.1.1.1.2;omega
 iw:=fun o ho=>by
  have hs:=C9 ho
  have e:=Oj h ho
  unfold instOk inst1 at e
  simp only[Bool.and_eq_true] at e
  have h3:=e.1.1.1.1.2
  unfold An at h3
  simp only[Bool.and_eq_true,decide_eq_true_eq] at h3
  refine⟨h3.2,fun b hb=> ?_⟩
  have h4:=Jx h3.1 hb
  unfold EZ at h4
  simp only[Bool.or_eq_false_iff,Bool.not_eq_false'] at h4
  have hx:=(Am w o).sz_eq;unfold szs at hx
  have hbz:=Ah A9.sz hb
  have hbe:=b.sz_eq;unfold szs at hbe
  exact(LS h4.1.2 (by omega)).1
noncomputable def spV (w:A1) (o:A3) (s:ByteArray):A7:=(sol w (asm w (Am w o).Af) 12 (spG (Am w o) s)).1
noncomputable def spD (w:A1) (o:A3) (s:ByteArray):Int:=(sol w (asm w (Am w o).Af) 12 (spG (Am w o) s)).2
noncomputable def spE (w:A1) (o:A3):List A7:=if spC w o=0 then (Ak w (Am w o).AK).map (spV w o) else []
theorem LL (w:A1) (o:A3):spC w o=fc (spD w o) (Ak w (Am w o).AK):=rfl
section
variable {w:A1} {o:A3}
theorem Pl (h:fc (spD w o) (Ak w (Am w o).AK)=0):spE w o=(Ak w (Am w o).AK).map (spV w o):=if_pos h
theorem U6 (h:¬fc (spD w o) (Ak w (Am w o).AK)=0):spE w o=[]:=if_neg h
theorem bL (h:Fa w o=false):coC w o=1:=by unfold coC;rw[if_pos (by rw[h];decide)]
theorem bK (h:Fa w o=true) (h2:Gu (over w) o=true):coC w o=2:=by unfold coC;rw[if_neg (by rw[h];decide),if_pos h2]
theorem bJ (h:Fa w o=true) (h2:Gu (over w) o=false) (h3:FU (Am w o)=false):coC w o=3:=by unfold coC;rw[if_neg (by rw[h];decide),if_neg (by rw[h2];decide),if_pos (by rw[h3];decide)]
theorem bI (h:Fa w o=true) (h2:Gu (over w) o=false) (h3:FU (Am w o)=true) (h4:EP (Am w o)=false):coC w o=4:=by unfold coC;rw[if_neg (by rw[h];decide),if_neg (by rw[h2];decide),if_neg (by rw[h3];decide),if_pos (by rw[h4];decide)]
theorem bH (h:Fa w o=true) (h2:Gu (over w) o=false) (h3:FU (Am w o)=true) (h4:EP (Am w o)=true) (h5:¬spC w o=0):coC w o=5:=by unfold coC;rw[if_neg (by rw[h];decide),if_neg (by rw[h2];decide),if_neg (by rw[h3];decide),if_neg (by rw[h4];decide),if_neg h5]
theorem bM (h:Fa w o=true) (h2:Gu (over w) o=false) (h3:FU (Am w o)=true) (h4:EP (Am w o)=true) (h5:spC w o=0):coC w o=0:=by unfold coC;rw[if_neg (by rw[h];decide),if_neg (by rw[h2];decide),if_neg (by rw[h3];decide),if_neg (by rw[h4];decide),if_pos h5]
end
noncomputable def coK (w:A1) (k:Nat):List AR:=fa (coS w) ((BD w).take k)
theorem Ny (w:A1):coK w 0=[]:=by simp[coK,fa]
theorem WC {w:A1} {k:Nat} (h:k<(BD w).length) (e:coC w (BD w)[k]=0):coK w (k+1)=coK w k:=by
 unfold coK fa;rw[Y' h,List.flatMap_append]
 simp[coS,e]
theorem R7 {w:A1} {k:Nat} (h:k<(BD w).length) (e:¬coC w (BD w)[k]=0):coK w (k+1)=coK w k++[⟨coC w (BD w)[k],(BD w)[k]⟩]:=by
 unfold coK fa;rw[Y' h,List.flatMap_append]
 simp[coS,e]
theorem R9 {w:A1} {k:Nat} (h:(BD w).length≤k):coK w k=fa (coS w) (BD w):=by unfold coK;rw[List.take_of_length_le h]
theorem R8 (w:A1) (k:Nat):(coK w k).length≤k:=by
 have h1:=Ja (f3 w) ((BD w).take k)
 unfold coK;simp only[List.length_take] at h1;omega
theorem WB {w:A1} (h:Sy w=true):M2 w=fa (coS w) (BD w):=by unfold M2;rw[if_pos h]
theorem WA {w:A1} (h:Sy w=false):M2 w=[⟨6,⟨0,0⟩⟩]:=by unfold M2;rw[if_neg (by rw[h];decide)]
theorem QD (a b:A3):decide (a=b)=(decide (a.BI=b.BI) && decide (a.fAt=b.fAt)):=by
 cases a;cases b;simp
theorem US (a b:A3):decide (a=b)=(decide (b.BI=a.BI) && decide (b.fAt=a.fAt)):=by
 rw[QD];congr 1<;>(congr 1;exact propext eq_comm)
noncomputable def L6 (w:A1):Bool:=decide (feE w=[]) && decide (M2 w=[])
theorem b9 {w:A1} (hv:vP w) {o:A3} (ho:inR w o):GT 59999964 (Am w o).Ar:=⟨_,Nat.le_trans (hv.iv o ho) (by decide),(hv.hd o ho).2⟩
theorem aJ {w:A1} (hv:vP w) {o:A3} (ho:inR w o):(Am w o).Af.length≤4∧∀b∈(Am w o).Af,b.AM.wd:=⟨(hv.iw o ho).1,fun b hb=>((hv.iw o ho).2 b hb).wd⟩
theorem SZ {op:List A0} {t:A0} (h:Cn op t=true):t∈op:=by
 unfold Cn eqT at h
 simp only[List.any_eq_true,decide_eq_true_eq] at h
 obtain⟨u,hu,rfl⟩:=h
 exact hu
theorem VP {w:A1} {op:List A0} {t:A0} (h:∀y∈op,daT w y=true) (hd:¬daT w t=true):Cn op t=false:=by
 cases e:Cn op t with
 |false=>rfl
 |true=>exact absurd (h _ (SZ e)) hd
theorem Yp {op:List A0} {t:A0} (h:∃x,x∈op∧eqT x t=true):Cn op t=true:=by
 unfold Cn;simpa using h
theorem Yq {op:List A0} {t:A0} (h:∀x,x∈op→eqT x t=false):Cn op t=false:=by
 unfold Cn;simpa using h
theorem jN {w:A1} {k:Int} {n:ByteArray} {l:List A0} (h:(¬k=2∨(daR w n).2.2=false)∨¬(daR w n).1.AZ.length=l.length):¬daT w ⟨k,n,l⟩=true:=by
 unfold daT
 rcases h with (h|h)|h<;>simp[h]
theorem Vf (g:A9):∀(F:List AD) (i:Nat),fAj F g i=match fs (ipF fun a:AD=>eqG a.DS g) i F with
  |some k=>(k:Int)
  |none=> -1
 |[],_=>rfl
 |a::F,i=>by
  have ih:=Vf g F (i+1)
  simp only[fAj,fs,ipF]
  by_cases h:eqG a.DS g=true
  ·simp only[h,if_true]
  ·simp only[h,if_false,Bool.false_eq_true]
   exact ih
theorem Z6 (F:List AD) (g:A9):CR F (fun a=>eqG a.DS g)=fAi F g:=by
 rw[Av];exact(Vf g F 0).symm
theorem c8 {w:A1} {s:ByteArray} (h:(trR w s).2.2=false):(trR w s).1.CP=false:=by
 unfold trR at h ⊢
 cases hq:inP A8.Ai AS.A6 w s with
 |none=>rfl
 |some x=>rw[hq] at h;cases x;cases h
theorem Zj {l:List ByteArray} {m:List A0} {k:Nat} (h:min l.length m.length≤k):bdK l m k=bds l m:=M9 l m k h
theorem WU (w:A1) (l:List A3) (o:A3):l.any (beS w o)= !Js w l o:=by rw[WV,Bool.not_not]
theorem VS (l:List A3) (o:A3):(l.any fun x=>decide (x=o))=Gu l o:=rfl
theorem cY {w:A1} {g:A9} (h:(sel w g).2=0):∃s,mtc (Am w (sel w g).1).Ar g.AM=some s:=by
 have h1:(sel w g).1∈C0 w g:=LN h
 have h2:=(List.mem_filter.1 h1).2
 unfold cnd at h2
 simp only[Bool.and_eq_true] at h2
 have h3:=h2.2
 unfold mtB at h3
 exact Option.isSome_iff_exists.1 h3
theorem Hj {w:A1} {s:ByteArray} (h:(trR w s).2.2=true→(trR w s).1.CP=false):(trR w s).1.CP=false:=by
 cases e:(trR w s).2.2 with
 |true=>exact h e
 |false=>exact c8 e
instance lx (l:List A3) (o:A3):Ct cx 142 [.d (.sl false Bc ((l).map (A3.dd false))),.d (FR o)] (True) (.d (.lf (.bool (Gu l o)))):=by
 refine Xi func142 18 [.tmp 4] [] [] AN (AI @Ys<|@VR) ?_;intro hp h M G H E
 repeat' (first|(refine iDL ?_;refine XrD ?_)|(refine IN.mk ?_;intros)|(refine iTw ?_;refine T2 ?_ ?_<;>((try clear H);intro hb H)<;>try (first|exact hb.elim|(exfalso;omega)))|(refine LF.mk ?_;exact LX)|refine GN ?_|(refine XC [0,3] [3] 5 (l.length) (fun k0=>Gu l o=Gu (l.drop k0) o) ?_;intro k0 hk0 hi0;by_cases hkk:k0<l.length;have hrd:=QD l[k0] o;replace H:=AI hrd H;rotate_left;rotate_left)|fail)
instance iIdxR (l:List A3) (o:A3):Ct cx 212 [.d (.sl false Bc ((l).map (A3.dd false))),.d (FR o)] (True) (.d (.lf (.int .i64 (CR l fun x=>decide (x=o))))):=by
 refine Xi func212 19 [.tmp 4] [] [] AN (AI @Av<|AI @ipF.eq_1<|AI @Aw<|@Aq) ?_;intro hp h M G H E
 repeat' (first|(refine iDL ?_;refine XrD ?_)|(refine IN.mk ?_;intros)|(refine iTw ?_;refine T2 ?_ ?_<;>((try clear H);intro hb H)<;>try (first|exact hb.elim|(exfalso;omega)))|(refine LF.mk ?_;exact LX)|refine GN ?_|(refine XC [0,3,7] [3] 8 (l.length) (fun k0=>fs (ipF fun x=>decide (x=o)) 0 l=fs (ipF fun x=>decide (x=o)) k0 (l.drop k0)) ?_;intro k0 hk0 hi0;by_cases hkk:k0<l.length;have hrd:=US l[k0] o;replace H:=AI hrd H;rotate_left;rotate_left)|fail)
instance iConR (l:List A3) (o:A3):Ct cx 149 [.d (.sl false Bc ((l).map (A3.dd false))),.d (FR o)] (True) (.d (.lf (.bool (Gu l o)))):=by
 refine Xi func149 9 [.tmp 4] [] [] AN (AI @Bi<|@VS) ?_;intro hp h M G H E
 all_goals exact GA0
theorem Ct.pre {c:Cx} {g:Nat} {aa:List AV} {p q:Prop} {r:AV} (h:Ct c g aa p r) (k:q→p):Ct c g aa q r:=⟨h.ok,fun hq=>h.cs (k hq)⟩
theorem ck:∀(N:Nat) (o:List A9) (k:Int) (n:ByteArray) (l:List A0),Ct cx 282 [.d (uK k n l),.d (.sl true BA ((o).map (A9.dd true)))] (AQ (⟨k,n,l⟩:A0)<N∧A0.sz (⟨k,n,l⟩:A0)≤134217728∧o.length+AQ (⟨k,n,l⟩:A0)≤1073741824) (.d (.sl true BA (((pjT (⟨k,n,l⟩:A0) o)).map (A9.dd true)))):=by
 intro N
 induction N with
 |zero=>intro o k n l;exact⟨fk1 func282,fun hp=>absurd hp.1 (Nat.not_lt_zero _)⟩
 |succ N ih=>
 intro o k n l
 refine Xi func282 62 [.tmp 4] [43,44,59,61] [59] AN (AI @OB<|@Ub) ?_;intro hp h M G H E
 have gs:∀j (hj:j<l.length),AQ l[j]<N:=fun j hj=>by have:=Bo hj;have:=BE (⟨k,n,l⟩:A0);have:=hp.1;simp only at*;omega
 have hlz:=A0.sz_eq (⟨k,n,l⟩:A0);simp only[szs] at hlz;have hpz:=hp.2.1;have hpr0:=hp.2.2;have hts:AQ (⟨k,n,l⟩:A0)=1+Ae l:=rfl
 by_cases hk3:k=3∧0<l.length
 obtain⟨rfl,hk32⟩:=hk3;obtain⟨u,hu⟩:∃u,l[0]'hk32=u:=⟨_,rfl⟩;have hu2:∀h:0<l.length,l[0]=u:=fun _=>hu;have hy1:=@QG 3 n l o rfl hk32;have hy2:=@QH 3 n l o rfl hk32;rw[hu] at hy1 hy2;have huz:=Ah A0.sz (gm hk32);rw[hu] at huz;have huz2:u.sz≤134217728:=(by omega);have huw:=CK huz2;replace H:=AI huw (AI hk32 (AI hu2 (AI huz2 H)))
 rotate_left
 have hn1:=Uc (n:=n) (o:=o) hk3
 rotate_left
 repeat' (first|exact true|(refine IN.mk ?_;intros)|(refine iTw ?_;refine T2 ?_ ?_<;>((try clear H);intro hb H)<;>try (first|exact hb.elim|(exfalso;omega)))|(refine LF.mk ?_;exact LX)|refine BO.mk ?_ ?_|(apply iPJ;exact NPJ)|apply PXs.of|refine GN ?_|(refine XL [1,2,5] [2,5] (fun k0 _=>[(7,.d (.lf (.int .i64 (k0:Int)))),(6,.d (.lf (.bool ((bhK o ⟨n,u⟩ k0)))))]) (fun _ _=>[]) (o.length) (fun _ _=>True) rU ?_;intro k0 hk0 s0 hi0;have hbe:=@Ie o k0 ⟨n,u⟩;have hbn:=@WT o k0 ⟨n,u⟩;have hyb1:o.length≤k0→bhK o ⟨n,u⟩ k0=true→pj1 3 n l o=o:=fun h e=>hy1 (by rw[←Ie _ h];exact e);have hyb2:o.length≤k0→bhK o ⟨n,u⟩ k0=false→pj1 3 n l o=o++[⟨n,u⟩]:=fun h e=>hy2 (by rw[←Ie _ h];exact e);replace H:=AI hbe (AI hbn H))|(have hca:pj1 k n l o=o:=(by first|exact hn1);refine XL [2] [2] (fun k1 _=>[(8,.d (.lf (.int .i64 (k1:Int)))),(1,.d (.sl true BA (((pjK l o k1)).map (A9.dd true))))]) (fun _ _=>[]) (l.length) (fun _ _=>True) rU ?_;intro k1 hk1 s1 hi1;have hpe:=@LQ k n l o k1;rw[hca] at hpe;have hpl:=Ek (l.take k1) o;have hp1:=Gm k n l o;rw[hca] at hp1;by_cases hkk:k1<l.length;rotate_left;have hpe2:=hpe (by omega);replace H:=AI hpe2 H;rotate_left;have hpn:=@Oe l o k1 hkk;have hpr:=@J5 l o k1 hkk;have hel:=Ah A0.sz (gm hkk);have hgs:=gs k1 hkk;have hrm:(pjK l o k1).length+AQ l[k1]≤1073741824:=(by omega);have hes:l[k1].sz≤134217728:=(by omega);replace H:=AI hpn (AI hgs (AI hrm (AI hes H))))|(have hca:pj1 3 n l o=o:=(by first|exact hyb1 (by omega) hb);refine XL [2] [2] (fun k1 _=>[(8,.d (.lf (.int .i64 (k1:Int)))),(1,.d (.sl true BA (((pjK l o k1)).map (A9.dd true))))]) (fun _ _=>[]) (l.length) (fun _ _=>True) rU ?_;intro k1 hk1 s1 hi1;have hpe:=@LQ 3 n l o k1;rw[hca] at hpe;have hpl:=Ek (l.take k1) o;have hp1:=Gm 3 n l o;rw[hca] at hp1;by_cases hkk:k1<l.length;rotate_left;have hpe2:=hpe (by omega);replace H:=AI hpe2 H;rotate_left;have hpn:=@Oe l o k1 hkk;have hpr:=@J5 l o k1 hkk;have hel:=Ah A0.sz (gm hkk);have hgs:=gs k1 hkk;have hrm:(pjK l o k1).length+AQ l[k1]≤1073741824:=(by omega);have hes:l[k1].sz≤134217728:=(by omega);replace H:=AI hpn (AI hgs (AI hrm (AI hes H))))|(have hca:pj1 3 n l o=(o++[⟨n,u⟩]):=(by first|exact hyb2 (by omega) hb);refine XL [2] [2] (fun k1 _=>[(8,.d (.lf (.int .i64 (k1:Int)))),(1,.d (.sl true BA (((pjK l (o++[⟨n,u⟩]) k1)).map (A9.dd true))))]) (fun _ _=>[]) (l.length) (fun _ _=>True) rU ?_;intro k1 hk1 s1 hi1;have hpe:=@LQ 3 n l o k1;rw[hca] at hpe;have hpl:=Ek (l.take k1) (o++[⟨n,u⟩]);have hp1:=Gm 3 n l o;rw[hca] at hp1;by_cases hkk:k1<l.length;rotate_left;have hpe2:=hpe (by omega);replace H:=AI hpe2 H;rotate_left;have hpn:=@Oe l (o++[⟨n,u⟩]) k1 hkk;have hpr:=@J5 l (o++[⟨n,u⟩]) k1 hkk;have hel:=Ah A0.sz (gm hkk);have hgs:=gs k1 hkk;have hrm:(pjK l (o++[⟨n,u⟩]) k1).length+AQ l[k1]≤1073741824:=(by omega);have hes:l[k1].sz≤134217728:=(by omega);replace H:=AI hpn (AI hgs (AI hrm (AI hes H))))|fail)
instance iL (o:List A9) (k:Int) (n:ByteArray) (l:List A0):Ct cx 282 [.d (uK k n l),.d (.sl true BA ((o).map (A9.dd true)))] (A0.sz (⟨k,n,l⟩:A0)≤134217728∧o.length+AQ (⟨k,n,l⟩:A0)≤1073741824) (.d (.sl true BA (((pjT (⟨k,n,l⟩:A0) o)).map (A9.dd true)))):=⟨fk1 func282,fun hp h=>(ck _ o k n l).cs ⟨Nat.lt_succ_self _,hp⟩ h⟩
instance sPjs0 (k:Int) (n:ByteArray) (l:List A0):Ct cx 282 [.d (uK k n l),.d (.sl true BA [])] (A0.sz (⟨k,n,l⟩:A0)≤134217728) (.d (.sl true BA (((pjT (⟨k,n,l⟩:A0) [])).map (A9.dd true)))):=⟨(Ct.pre (iL [] k n l) (fun hp=>⟨hp,by have:=Cm (⟨k,n,l⟩:A0);simp only[List.length_nil];omega⟩)).ok,fun hp h=>by have q:=(Ct.pre (iL [] k n l) (fun hp=>⟨hp,by have:=Cm (⟨k,n,l⟩:A0);simp only[List.length_nil];omega⟩)).cs hp h;first|exact q|simpa using q⟩
attribute [simp] WF f6 Zy
def Sl (l:List AA) (s:ByteArray) (k0 k2:Nat):Bool:=((l.take k0).drop k2).any fun c=>decide (c.A6=s)
theorem Du {l:List AA} {s:ByteArray} {k0 k2:Nat} (h:k2<k0) (h2:k0≤l.length):Sl l s k0 k2=(decide ((l[k2]'(by omega)).A6=s)||Sl l s k0 (k2+1)):=by
  unfold Sl
  rw[Ca (l:=l.take k0) (by simp;omega)]
  simp
theorem DO {l:List AA} {s:ByteArray} {k0 k2:Nat} (h:k0≤k2):Sl l s k0 k2=false:=by
  unfold Sl;exact Bp (by simp;omega)
theorem iU (d:AF) (a:List Ab) (h:HP):CS cx.P 243 [.d ((d).dd false),.d (.sl false BJ ((a).map (Ab.dd false)))] h (.d (.lf (.bool (Gz d a)))) h:=by
 refine Xe func243 rfl 78 [.tmp 4] ?_
 let M:List Nat:=[]
 let G:List Nat:=[]
 have H:=AN
 repeat' (first|refine GO ?_|(refine Two.mk ?_ ?_<;>intro hb<;>(try simp at hb)<;>(try norm_cast at hb)<;>try replace H:=HN hb H)|(refine RG.mk ?_;(try clear hK hD);first|intro _ K hD hK|intro K hD hK)|(refine RF.mk ?_;intro hr)|(refine LF.mk ?_;(try clear hK hD);first|rfl|(simp[Gz,Aw,Aq,Dm,G0,BX,BW, *];done)))
 have hlp:LF (a.length=d.A4.length):=⟨‹_›⟩;clear ‹a.length=d.A4.length›
 refine W.loopR [1,2] [2] (fun k0 _=>[(5,.d (.lf (.int .i64 (k0:Int))))]) (fun _ _=>[]) (d.A4.length) (fun k0 _=>fs (bad (G0 d.A4 a)) 0 d.A4=fs (bad (G0 d.A4 a)) k0 (d.A4.drop k0)) (fun S=>()) rfl (by simp) (by first|trivial|rfl|(simp;done)|(simp[Gz,Aw,Aq,Dm,G0,Du,DO,BX,BW,hlp.r];done)|(simp_all [Gz,Aw,Aq,Dm,G0,Du,DO,BX,BW,hlp.r];done)) ?_
 intro k0 hk0 s0 hi0 T hT;simp at hT;subst hT
 repeat' (first|refine GO ?_|(refine Two.mk ?_ ?_<;>intro hb<;>(try simp at hb)<;>(try norm_cast at hb)<;>try replace H:=HN hb H)|(refine RG.mk ?_;(try clear hK hD);first|intro _ K hD hK|intro K hD hK)|(refine RF.mk ?_;intro hr)|(refine LF.mk ?_;(try clear hK hD);first|rfl|(simp[Gz,Aw,Aq,Dm,G0,Du,DO,BX,BW,hlp.r, *];done)))
 refine W.loopR [1,2,5] [2] (fun k1 _=>[(7,.d (.lf (.int .i64 (k1:Int)))),(6,.d (.lf (.int .i64 (((cnt (Sr d.A4[k0]) a k1:Nat):Int)))))]) (fun _ _=>[]) (a.length) (fun _ _=>True) (fun S=>()) rfl (by simp) (by first|trivial|rfl|(simp;done)|(simp[Gz,Aw,Aq,Dm,G0,Du,DO,BX,BW,hlp.r];done)|(simp_all [Gz,Aw,Aq,Dm,G0,Du,DO,BX,BW,hlp.r];done)) ?_
 intro k1 hk1 s1 hi1 T hT;simp at hT;subst hT
 have hcl:=f7 (Sr d.A4[k0]) a k1
 repeat' (first|refine GO ?_|(refine Two.mk ?_ ?_<;>intro hb<;>(try simp at hb)<;>(try norm_cast at hb)<;>try replace H:=HN hb H)|(refine RG.mk ?_;(try clear hK hD);first|intro _ K hD hK|intro K hD hK)|(refine RF.mk ?_;intro hr)|(refine LF.mk ?_;(try clear hK hD);first|rfl|(simp[Gz,Aw,Aq,Dm,G0,Du,DO,BX,BW,hlp.r, *];done)))
 refine W.loopR [1,2,5,6] [2] (fun k2 _=>[(8,.d (.lf (.int .i64 (k2:Int))))]) (fun _ _=>[]) (k0) (fun k2 _=>Sm d.A4 k0 d.A4[k0].A6=Sl d.A4 d.A4[k0].A6 k0 k2) (fun S=>()) rfl (by simp) (by first|trivial|rfl|(simp;done)|(simp[Gz,Aw,Aq,Dm,G0,Du,DO,BX,BW,hlp.r];done)|(simp_all [Gz,Aw,Aq,Dm,G0,Du,DO,BX,BW,hlp.r];done)) ?_
 intro k2 hk2 s2 hi2 T hT;simp at hT;subst hT
 have hce:a.countP (Sr d.A4[k0])=cnt (Sr d.A4[k0]) a k1:=(ZP (by omega)).symm
 repeat' (first|refine GO ?_|(refine Two.mk ?_ ?_<;>intro hb<;>(try simp at hb)<;>(try norm_cast at hb)<;>try replace H:=HN hb H)|(refine RG.mk ?_;(try clear hK hD);first|intro _ K hD hK|intro K hD hK)|(refine RF.mk ?_;intro hr)|(refine LF.mk ?_;(try clear hK hD);first|rfl|(simp[Gz,Aw,Aq,Dm,G0,Du,DO,BX,BW,hlp.r, *];done)))
instance jv (d:AF) (a:List Ab):Ct cx 243 [.d (Rl d),.d (.sl false BJ ((a).map (Ab.dd false)))] (True) (.d (.lf (.bool (Gz d a)))):=⟨fk1 func243,fun hp h=>by have q:=iU d a h;first|exact q|simpa using q⟩
def zAr:Ab:=⟨⟨#[]⟩,[],zX⟩
def Ss (e:AG):Ab:=(e.Ad[0]?).getD zAr
def ctC (w:A1) (s:ByteArray):AA:=((ctR w s).1.A4[(ctR w s).2.1]?).getD ⟨⟨#[]⟩,[]⟩
theorem MD {e:AG} (h:¬e.Ad=[]):e.Ad[0]? =some (Ss e):=by
 unfold Ss;cases hq:e.Ad with
 |nil=>exact absurd hq h
 |cons a l=>rfl
theorem MC {e:AG} (h:¬e.Ad=[]):0<e.Ad.length:=List.length_pos_iff.2 h
theorem P6 {w:A1} {V:List Nat} {s:ByteArray} (h:ctV w V s=true):(ctR w s).1.A4[(ctR w s).2.1]? =some (ctC w s):=by
 unfold ctC;rw[List.getElem?_eq_getElem (P5 h)];rfl
theorem KH (w:A1) (V:List Nat) (e:AG):FN w V e=
 if e.AH=4 then (if fnV w V e.A6 && decide ((fnR w e.A6).1.Al.length=e.AB.length) then (0:Int) else 9)
 else if e.AH=5 then (if trV w V e.AK then (if (siR (trR w e.AK).1 e.A6).2.2 && decide ((siR (trR w e.AK).1 e.A6).1.Al.length+1=e.AB.length) then (0:Int) else 6) else 3)
 else if e.AH=6 then (if ctV w V e.A6 then (if (ctC w e.A6).At.length=e.AB.length then (0:Int) else 2) else 1)
 else if e.AH=7 then (if e.Ad=[] then (1:Int) else (if ctV w V (Ss e).AY then (if JY (ctR w (Ss e).AY).1 e.Ad then (0:Int) else 2) else 1))
 else if e.AH=11 then ckD w V e.AK
 else if e.AH=12 then ckT w V e.AM
 else 0:=by
 rw[TB]
 have h6:(if ctV w V e.A6 then (if (((ctR w e.A6).1.A4[(ctR w e.A6).2.1]?).map fun c=>c.At.length)=some e.AB.length then (0:Int) else 2) else 1)=(if ctV w V e.A6 then (if (ctC w e.A6).At.length=e.AB.length then (0:Int) else 2) else 1):=by
  by_cases h:ctV w V e.A6=true
  ·rw[if_pos h,if_pos h,P6 h];simp
  ·rw[if_neg h,if_neg h]
 have h7:(if h:0<e.Ad.length then (if ctV w V e.Ad[0].AY then (if JY (ctR w e.Ad[0].AY).1 e.Ad then (0:Int) else 2) else 1) else 1:Int)=(if e.Ad=[] then (1:Int) else (if ctV w V (Ss e).AY then (if JY (ctR w (Ss e).AY).1 e.Ad then (0:Int) else 2) else 1)):=by
  by_cases h:e.Ad=[]
  ·simp[h]
  ·have h1:=MC h
   have h2:=MD h
   rw[List.getElem?_eq_getElem h1] at h2
   have h3:=Option.some.inj h2
   rw[dif_pos h1,if_neg h,h3]
 rw[h6,h7]
def r0 (w:A1) (i:Nat) (p:A8) (k:Nat):List AP:=fl (feT w i) p.Ai k
theorem an {w:A1} {i:Nat} {p:A8} {k:Nat} (h:k<p.Ai.length):r0 w i p (k+1)=r0 w i p k++feT w i p.Ai[k]:=by
 unfold r0;rw[G5 h]
theorem ao (w:A1) (i:Nat) (p:A8) (k:Nat):(r0 w i p k).length≤p.sz:=by
 have hk:=Qw (f:=feT w i) (fun x=>DN _ _ _ _) p.Ai k
 have hz:=p.sz_eq;unfold szs at hz
 unfold r0;omega
def r1 (w:A1) (i:Nat) (p:A8) (k:Nat):List AP:=fa (feT w i) p.Ai++fl (feD w i) p.AE k
theorem ak {w:A1} {i:Nat} {p:A8} {k:Nat} (h:k<p.AE.length):r1 w i p (k+1)=r1 w i p k++feD w i p.AE[k]:=by
 unfold r1;rw[G5 h];simp only[List.append_assoc]
theorem am (w:A1) (i:Nat) (p:A8) (k:Nat):(r1 w i p k).length≤p.sz:=by
 have h0:=Ja (f:=feT w i) (fun x=>DN _ _ _ _) p.Ai
 have hk:=Qw (f:=feD w i) (fun x=>DN _ _ _ _) p.AE k
 have hz:=p.sz_eq;unfold szs at hz
 unfold r1;simp only[List.length_append];omega
def r2 (w:A1) (i:Nat) (p:A8) (k:Nat):List AP:=fa (feT w i) p.Ai++fa (feD w i) p.AE++fl (feI w i) p.AO k
theorem ai {w:A1} {i:Nat} {p:A8} {k:Nat} (h:k<p.AO.length):r2 w i p (k+1)=r2 w i p k++feI w i p.AO[k]:=by
 unfold r2;rw[G5 h];simp only[List.append_assoc]
theorem aj (w:A1) (i:Nat) (p:A8) (k:Nat):(r2 w i p k).length≤p.sz:=by
 have h0:=Ja (f:=feT w i) (fun x=>DN _ _ _ _) p.Ai
 have h1:=Ja (f:=feD w i) (fun x=>DN _ _ _ _) p.AE
 have hk:=Qw (f:=feI w i) (fun x=>DN _ _ _ _) p.AO k
 have hz:=p.sz_eq;unfold szs at hz
 unfold r2;simp only[List.length_append];omega
def r3 (w:A1) (i:Nat) (p:A8) (k:Nat):List AP:=fa (feT w i) p.Ai++fa (feD w i) p.AE++fa (feI w i) p.AO++fl (feF w i) p.Ac k
theorem ag {w:A1} {i:Nat} {p:A8} {k:Nat} (h:k<p.Ac.length):r3 w i p (k+1)=r3 w i p k++feF w i p.Ac[k]:=by
 unfold r3;rw[G5 h];simp only[List.append_assoc]
theorem ah (w:A1) (i:Nat) (p:A8) (k:Nat):(r3 w i p k).length≤p.sz:=by
 have h0:=Ja (f:=feT w i) (fun x=>DN _ _ _ _) p.Ai
 have h1:=Ja (f:=feD w i) (fun x=>DN _ _ _ _) p.AE
 have h2:=Ja (f:=feI w i) (fun x=>DN _ _ _ _) p.AO
 have hk:=Qw (f:=feF w i) (fun x=>DN _ _ _ _) p.Ac k
 have hz:=p.sz_eq;unfold szs at hz
 unfold r3;simp only[List.length_append];omega
theorem IV (w:A1) (i:Nat) (p:A8):r0 w i p 0=[]:=rfl
theorem UY {w:A1} {i:Nat} {p:A8} {k:Nat} (h:p.Ai.length≤k):r0 w i p k=r1 w i p 0:=by
 unfold r0 r1;rw[EX h,Gy,List.append_nil]
theorem UX {w:A1} {i:Nat} {p:A8} {k:Nat} (h:p.AE.length≤k):r1 w i p k=r2 w i p 0:=by
 unfold r1 r2;rw[EX h,Gy,List.append_nil]
theorem UW {w:A1} {i:Nat} {p:A8} {k:Nat} (h:p.AO.length≤k):r2 w i p k=r3 w i p 0:=by
 unfold r2 r3;rw[EX h,Gy,List.append_nil]
theorem UV {w:A1} {i:Nat} {p:A8} {k:Nat} (h:p.Ac.length≤k):r3 w i p k=feP w i p:=by
 unfold r3 feP;rw[EX h]
instance g13V1 (k:Int) (n:ByteArray) (l:List A0) (s:ByteArray):Ct cx 230 [.d (uK k n l),.d (.sl false .one [.lf (.string s)])] (A0.sz ⟨k,n,l⟩≤134217728) (.d (.lf (.bool (Bl ⟨k,n,l⟩ [s])))):=⟨(Qs k n l [s]).ok,fun hp h=>by have q:=(Qs k n l [s]).cs hp h;first|exact q|simpa using q⟩
instance g13A1 (l:List A0) (s:ByteArray):Ct cx 229 [.d (.sl false Ag ((l).map (A0.dd false))),.d (.sl false .one [.lf (.string s)])] (∀y∈l,y.sz≤134217728) (.d (.lf (.bool (El l [s])))):=⟨(VU l [s]).ok,fun hp h=>by have q:=(VU l [s]).cs hp h;first|exact q|simpa using q⟩
instance nO (x:AC):Ct cx 228 [.d (K6 x)] (x.sz≤134217728) (.d (.lf (.bool (FB x)))):=by
 refine Xi func228 59 [.tmp 2] [] [] AN (AI @FB.eq_1<|@Q1.eq_1) ?_;intro hp h M G H E
 have hx:=x.sz_eq;unfold szs at hx
 have hsp:∀y∈x.Al,y.sz≤134217728:=fun y hy=>by have:=Ah A0.sz hy;omega
 replace H:=AI hsp H
 have hw:=BF (n:=(x.Al.length:Int)+1) (by omega) (by omega);replace H:=AI hw H
 all_goals exact GA1
instance Ot (x:AS):Ct cx 160 [.d (K5 x)] (x.sz≤134217728) (.d (.lf (.bool (DB x)))):=by
 refine Xi func160 59 [.tmp 2] [20] [] AN (AI @DB.eq_1<|AI @Ca<|AI @Bp<|@Ba) ?_;intro hp h M G H E
 have qSignature:=AC.sz_eq;have gSignature:=@Bm _ AC.sz;unfold szs at qSignature
 have hx:=x.sz_eq;unfold szs at hx
 repeat' (first|exact true|(refine IN.mk ?_;intros)|(refine iTw ?_;refine T2 ?_ ?_<;>((try clear H);intro hb H)<;>try exact hb.elim)|(refine LF.mk ?_;exact LX)|refine BO.mk ?_ ?_|(apply iPJ;exact NPJ)|apply PXs.of|refine GN ?_|(refine XL [1] [1] (fun k0 _=>[(4,.d (.lf (.int .i64 (k0:Int)))),(3,.d (.sl true .one (((mp AC.A6 x.AU k0)).map (dS))))]) (fun _ _=>[]) (x.AU.length) (fun k0 _=>(x.AU.any fun g=> !FB g)=(x.AU.drop k0).any fun g=> !FB g) rU ?_;intro k0 hk0 s0 hi0;have hml:=Bh AC.A6 hk0)|fail)
instance gData (x:AF):Ct cx 161 [.d (Rl x)] (x.sz≤134217728) (.d (.lf (.bool (D2 x)))):=by
 refine Xi func161 59 [.tmp 2] [33] [] AN (AI @D2.eq_1<|AI @I8.eq_1<|AI @Ca<|AI @Bp<|@Ba) ?_;intro hp h M G H E
 have hx:=x.sz_eq;unfold szs at hx
 have hcs:∀k (h:k<x.A4.length),∀y∈(x.A4[k]).At,y.sz≤134217728:=fun k h y hy=>by have h1:=Ah AA.sz (gm h);have h2:=(x.A4[k]).sz_eq;unfold szs at h2;have h3:=Ah A0.sz hy;omega
 replace H:=AI hcs H
 repeat' (first|exact true|(refine IN.mk ?_;intros)|(refine iTw ?_;refine T2 ?_ ?_<;>((try clear H);intro hb H)<;>try exact hb.elim)|(refine LF.mk ?_;exact LX)|refine BO.mk ?_ ?_|(apply iPJ;exact NPJ)|apply PXs.of|refine GN ?_|(refine XL [1] [1] (fun k0 _=>[(4,.d (.lf (.int .i64 (k0:Int)))),(3,.d (.sl true .one (((mp AA.A6 x.A4 k0)).map (dS))))]) (fun _ _=>[]) (x.A4.length) (fun k0 _=>(x.A4.any fun c=>I8 c x.AZ)=(x.A4.drop k0).any fun c=>I8 c x.AZ) rU ?_;intro k0 hk0 s0 hi0;have hml:=Bh AA.A6 hk0)|fail)
instance gFn (x:AL):Ct cx 163 [.d (Mg x)] (x.sz≤134217728) (.d (.lf (.bool (NY x)))):=by
 refine Xi func163 64 [.tmp 2] [23] [] AN (AI @NY.eq_1<|AI @Ca<|AI @Bp<|@Ba) ?_;intro hp h M G H E
 have qParam:=AW.sz_eq;have gParam:=@Bm _ AW.sz;unfold szs at qParam
 have hx:=x.sz_eq;unfold szs at hx
 have hsw:∀y∈x.Af,y.sz≤134217728:=fun y hy=>by have:=Ah A9.sz hy;omega
 replace H:=AI hsw H
 repeat' (first|exact true|(refine IN.mk ?_;intros)|(refine iTw ?_;refine T2 ?_ ?_<;>((try clear H);intro hb H)<;>try exact hb.elim)|(refine LF.mk ?_;exact LX)|refine BO.mk ?_ ?_|(apply iPJ;exact NPJ)|apply PXs.of|refine GN ?_|(refine XL [1] [1] (fun k0 _=>[(4,.d (.lf (.int .i64 (k0:Int)))),(3,.d (.sl true .one (((mp AW.A6 x.Al k0)).map (dS))))]) (fun _ _=>[]) (x.Al.length) (fun k0 _=>(x.Al.any fun p=> !Bl p.AM x.AZ)=(x.Al.drop k0).any fun p=> !Bl p.AM x.AZ) rU ?_;intro k0 hk0 s0 hi0;have hml:=Bh AW.A6 hk0)|fail)
