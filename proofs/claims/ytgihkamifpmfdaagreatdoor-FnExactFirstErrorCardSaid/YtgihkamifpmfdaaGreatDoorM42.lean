/- Part 42. No condition. -/
import Derived.Test.YtgihkamifpmfdaaGreatDoorM39
namespace Go.Proofs.YtgihkamifpmfdaaGreatDoor
open Go.RowKit Tryz
set_option linter.unusedVariables false
set_option maxRecDepth 10000
set_option linter.unusedSimpArgs false
set_option maxHeartbeats 4000000
def ieV (w:A1) (F:List AD) (N:Nat) (g:A9) (b:A9):A7:=(sol w F N (whF (whS w (sel w g).1 g) b)).1
def ieC (w:A1) (F:List AD) (N:Nat) (g:A9) (b:A9):Int:=(sol w F N (whF (whS w (sel w g).1 g) b)).2
section
variable {w:A1} {F:List AD} {N:Nat} {g:A9}
theorem Vo (h:¬(sel w g).2=0):inE w (sol w F N) g=(⟨0,0,⟨0,0⟩,[]⟩,(sel w g).2):=by unfold inE;rw[if_neg h]
theorem R4 (h:(sel w g).2=0) (h2:fc (ieC w F N g) (Ao w (sel w g).1).Ah=0):inE w (sol w F N) g=(⟨1,0,(sel w g).1,(Ao w (sel w g).1).Ah.map (ieV w F N g)⟩,0):=by
 unfold inE inL;rw[if_pos h]
 exact if_pos h2
theorem R5 (h:(sel w g).2=0) {c:Int} (h2:fc (ieC w F N g) (Ao w (sel w g).1).Ah=c) (h3:¬c=0):inE w (sol w F N) g=(⟨0,0,⟨0,0⟩,[]⟩,c):=by
 subst h2
 unfold inE inL;rw[if_pos h]
 exact if_neg h3
theorem QB (h:0≤fAi F g):sol w F N g=(apS ⟨2,(fAa F g).Eu,⟨0,0⟩,[]⟩ (fAa F g).DY,0):=by
 cases N<;>simp only[sol]<;>rw[if_pos h]
theorem bz (h:fAi F g<0):sol w F 0 g=(⟨0,0,⟨0,0⟩,[]⟩,3):=by simp only[sol];rw[if_neg (by omega)]
theorem c7 (h:fAi F g<0) (h2:(trR w g.AK).1.CP=true) (h3:au w F g.AK 32 g.AM []=0):sol w F (N+1) g=(⟨5,0,⟨0,0⟩,[]⟩,0):=by simp only[sol];rw[if_neg (by omega),if_pos h2,if_pos h3]
theorem c6 (h:fAi F g<0) (h2:(trR w g.AK).1.CP=true) (h3:¬au w F g.AK 32 g.AM []=0):sol w F (N+1) g=(⟨0,0,⟨0,0⟩,[]⟩,au w F g.AK 32 g.AM []):=by simp only[sol];rw[if_neg (by omega),if_pos h2,if_neg h3]
theorem c5 (h:fAi F g<0) (h2:(trR w g.AK).1.CP=false) (h3:g.AM.AH=1∨g.AM.AH=3):sol w F (N+1) g=(⟨0,0,⟨0,0⟩,[]⟩,1):=by simp only[sol];rw[if_neg (by omega),if_neg (by rw[h2];decide),if_pos h3]
theorem Uh (h:fAi F g<0) (h2:(trR w g.AK).1.CP=false) (h3:¬g.AM.AH=1∧¬g.AM.AH=3) (h4:g.AM.AH=4) (h5:(pth w g.AK 8 g.AM.A5).isSome=true):sol w F (N+1) g=(apS ⟨4,0,⟨0,0⟩,[]⟩ (((pth w g.AK 8 g.AM.A5).getD []).map fun (n:Nat)=>(n:Int)),0):=by
 simp only[sol];rw[if_neg (by omega),if_neg (by rw[h2];decide),if_neg (by omega),if_pos ⟨h4,h5⟩]
theorem NF (h:fAi F g<0) (h2:(trR w g.AK).1.CP=false) (h3:¬g.AM.AH=1∧¬g.AM.AH=3) (h4:g.AM.AH=4→(pth w g.AK 8 g.AM.A5).isSome=false):sol w F (N+1) g=inE w (sol w F N) g:=by
 simp only[sol];rw[if_neg (by omega),if_neg (by rw[h2];decide),if_neg (by omega),if_neg]
 rintro ⟨a,b⟩
 rw[h4 a] at b;exact absurd b (by decide)
end
theorem Oa {s:BA'} {l:List UInt8} (h:s.toList=l):s=⟨l.toArray⟩:=by
 rw[Go.ByteArray.toList_eq] at h
 cases s
 simp only at h
 subst h
 simp
theorem bB {s:BA'} (h:BV s=true):Cq s=false:=by
 unfold BV at h
 simp only[Bool.and_eq_true,Bool.not_eq_true'] at h
 cases hb:Cq s with
 |false=>rfl
 |true=>
  unfold Cq at hb
  simp only[Bool.or_eq_true,beq_iff_eq] at hb
  have hm:B7 rsv s=true:=by
   rw[Di]
   rcases hb with hb|hb
   ·have:=Oa hb
    subst this;simp[rsv]
   ·have:=Oa hb
    subst this;simp[rsv]
  rw[hm] at h;simp at h
mutual
theorem Qo:∀x:A0,CK x=true→nb x
 |⟨k,n,l⟩,h=>by
  simp only[CK,Bool.and_eq_true] at h
  simp only[nb]
  refine⟨fun hk hb=> ?_,NZ l h.2⟩
  have h1:=h.1
  subst hk
  have h2:BV n=false:=by
   cases hq:BV n with
   |false=>rfl
   |true=>rw[bB hq] at hb;cases hb
  simp[Cf,h2,hb] at h1
  exact h1
theorem NZ:∀l:List A0,DV l=true→nbs l
 |[],_=>trivial
 |x::l,h=>by
  simp only[DV,Bool.and_eq_true] at h
  simp only[nbs];exact⟨Qo x h.1,NZ l h.2⟩
end
mutual
theorem UE:∀(x:A0) (o:List BA'),o.Nodup→(tvs x o).Nodup
 |⟨k,n,l⟩,o,h=>by
  simp only[tvs]
  refine Pz l _ ?_
  unfold tvS
  split
  ·rename_i e
   refine List.nodup_append.2 ⟨h,by simp,fun a ha b hb q=> ?_⟩
   simp only[List.mem_singleton] at hb;subst hb;subst q
   exact e.2 (Di.2 ha)
  ·exact h
theorem Pz:∀(l:List A0) (o:List BA'),o.Nodup→(CC l o).Nodup
 |[],o,h=>by simpa[CC] using h
 |x::l,o,h=>by simp only[CC];exact Pz l _ (UE x o h)
end
theorem YY {l V:List BA'} (h:sub l V=true):∀v∈l,v∈V:=by
 intro v hv
 unfold sub at h
 simp only[Bool.not_eq_true',List.any_eq_false] at h
 have:=h v hv
 simp only[Bool.not_eq_true',Bool.not_eq_false] at this
 exact Di.1 (by simpa using this)
theorem Lr {x:A0} {V:List BA'} (h:Bl x V=true) (hz:x.sz≤134217728):GU V x∧AR x≤60∧(tv x).length≤V.length:=by
 unfold Bl at h
 simp only[Bool.and_eq_true] at h
 have hs:=YY h.2
 have h1:=h.1
 unfold Bx at h1
 simp only[Bool.and_eq_true,decide_eq_true_eq] at h1
 exact⟨⟨CJ hz,Qo x h1.1.1,E3 hs (HW x)⟩,h1.2,Bu (UE x [] (by simp)) hs⟩
theorem HV {l:List BA'} {n:Int} (h:CV l n=true):(l.length:Int)≤n:=by
 unfold CV at h
 simp only[Bool.and_eq_true,decide_eq_true_eq] at h
 exact h.1.1
theorem KH {α:Type} {l:List α} {p:α→Bool} (h:(!l.any p)=true) {x:α} (hx:x∈l):p x=false:=by
 simp only[Bool.not_eq_true',List.any_eq_false] at h
 simpa using h x hx
theorem VK {w:A1} (h:feE w=[]) {p:A8} (hp:p∈w.A2):F3 p=true:=by
 unfold feE at h
 split at h
 ·rename_i hd
  rw[OK] at hd
  simp only[Bool.and_eq_true] at hd
  obtain⟨k,hk,rfl⟩:=List.getElem_of_mem hp
  have:=PK.1 hd.1 k hk
  unfold dpF DS at this
  simp only[Bool.and_eq_true] at this
  exact this.1.2
 ·simp at h
theorem P9 {w:A1} (h:feE w=[]) {o:A3} (ho:inR w o):instOk (Ao w o)=true:=by
 obtain⟨i,k,hi,hk,rfl⟩:=ho
 rw[Da hi hk]
 have h1:=VK h (gm hi)
 unfold F3 at h1
 simp only[Bool.and_eq_true] at h1
 simpa using KH h1.1.2 (gm hk)
theorem Qk {w:A1} (h:feE w=[]) (s:BA'):(daR w s).1=zDa∨D3 (daR w s).1=true:=by
 unfold daR
 cases hq:inP A8.AE AF.A5 w s with
 |none=>exact .inl rfl
 |some x=>
  obtain⟨d,i⟩:=x
  right
  obtain⟨⟨p,hp,hd⟩, -⟩:=M4 hq
  have h1:=VK h hp
  unfold F3 at h1
  simp only[Bool.and_eq_true] at h1
  have h2:(!D3 d)=false:=KH h1.1.1.2 hd
  show D3 d=true
  simpa using h2
theorem bZ {w:A1} (hz:w.sz≤16777216) (h:feE w=[]):vP w where
 sz:=hz
 da:=fun s c f hc hf=>by
  have hs:=PU w s
  rcases Qk h s with e|e
  ·rw[e] at hc;simp[zDa] at hc
  ·unfold D3 at e
   simp only[Bool.and_eq_true] at e
   have h1:=KH e.1.1.1.1 hc
   unfold IK En at h1
   simp only[Bool.or_eq_false_iff,Bool.not_eq_false'] at h1
   have h2:=KH h1.2 hf
   have hd:=(daR w s).1.sz_eq;unfold szs at hd
   have hcz:=Ae AA.sz hc
   have hce:=c.sz_eq;unfold szs at hce
   have hfz:=Ae A0.sz hf
   exact(Lr (by simpa using h2) (by omega)).1
 dv:=fun s=>by
  rcases Qk h s with e|e
  ·rw[e];simp[zDa]
  ·unfold D3 at e
   simp only[Bool.and_eq_true] at e
   have:=HV e.1.1.2;omega
 hd:=fun o ho=>by
  have hs:=C9 ho
  have e:=P9 h ho
  unfold instOk inst1 at e
  simp only[Bool.and_eq_true] at e
  have hx:=(Ao w o).sz_eq;unfold szs at hx
  have h1:=Lr e.1.1.1.1.1.1.1.2 (by omega)
  have h2:=HV e.1.1.1.1.1.1.1.1.2
  exact⟨⟨h1.2.1,by have:=h1.2.2;omega⟩,h1.1⟩
 iv:=fun o ho=>by
  have e:=P9 h ho
  unfold instOk inst1 at e
  simp only[Bool.and_eq_true] at e
  have h2:=HV e.1.1.1.1.1.1.1.1.2;omega
 iw:=fun o ho=>by
  have hs:=C9 ho
  have e:=P9 h ho
  unfold instOk inst1 at e
  simp only[Bool.and_eq_true] at e
  have h3:=e.1.1.1.1.2
  unfold KO at h3
  simp only[Bool.and_eq_true,decide_eq_true_eq] at h3
  refine⟨h3.2,fun b hb=> ?_⟩
  have h4:=KH h3.1 hb
  unfold Eb at h4
  simp only[Bool.or_eq_false_iff,Bool.not_eq_false'] at h4
  have hx:=(Ao w o).sz_eq;unfold szs at hx
  have hbz:=Ae A9.sz hb
  have hbe:=b.sz_eq;unfold szs at hbe
  exact(Lr h4.1.2 (by omega)).1
section
variable {w:A1} {F:List AD} {tr n:BA'} {N:Nat} {k:Int} {l op:List A0}
theorem gu (h:(k=2∧Cq n=true)∨0≤fAi F ⟨tr,⟨k,n,l⟩⟩):au w F tr (N+1) ⟨k,n,l⟩ op=0:=by
 rw[XX]
 split
 ·rfl
 ·rename_i q
  rcases h with h|h
  ·exact absurd h q
  ·rw[if_pos h]
theorem lJ (h:Co op ⟨k,n,l⟩=true):au w F tr (N+1) ⟨k,n,l⟩ op=0:=by
 rw[XX]
 simp[h]
theorem gv (h:(k=2→Cq n=false)∧fAi F ⟨tr,⟨k,n,l⟩⟩<0) (h2:Co op ⟨k,n,l⟩=false):au w F tr (N+1) ⟨k,n,l⟩ op=if ¬daT w ⟨k,n,l⟩=true then 1
  else if 30<op.length then 3
  else if 400<szW ⟨k,n,l⟩ then 3
  else fc (auC w F tr N ⟨k,n,l⟩ op) (daR w n).1.A4:=by
 rw[XX,if_neg,if_neg (by omega),if_neg (by rw[h2];decide)]
 rintro ⟨a,b⟩
 have:=h.1 a
 simp only at b
 rw[this] at b;exact absurd b (by decide)
theorem lI (h:(k=2→Cq n=false)∧fAi F ⟨tr,⟨k,n,l⟩⟩<0) (h2:Co op ⟨k,n,l⟩=false) (h3:(¬k=2∨(daR w n).2.2=false)∨¬(daR w n).1.Aa.length=l.length):au w F tr (N+1) ⟨k,n,l⟩ op=1:=by
 rw[gv h h2,if_pos]
 unfold daT
 rcases h3 with (h3|h3)|h3<;>simp[h3]
theorem Wm (h:(k=2∧(daR w n).2.2=true)∧(daR w n).1.Aa.length=l.length):daT w ⟨k,n,l⟩=true:=by
 unfold daT
 simp[h.1.1,h.1.2,h.2]
theorem lH (h:(k=2→Cq n=false)∧fAi F ⟨tr,⟨k,n,l⟩⟩<0) (h2:Co op ⟨k,n,l⟩=false) (h3:(k=2∧(daR w n).2.2=true)∧(daR w n).1.Aa.length=l.length) (h4:30<op.length∨400<szW ⟨k,n,l⟩):au w F tr (N+1) ⟨k,n,l⟩ op=3:=by
 rw[gv h h2,if_neg (by rw[Wm h3];decide)]
 split
 ·rfl
 ·rcases h4 with h4|h4
  ·contradiction
  ·rw[if_pos h4]
theorem bD (h:(k=2→Cq n=false)∧fAi F ⟨tr,⟨k,n,l⟩⟩<0) (h2:Co op ⟨k,n,l⟩=false) (h3:(k=2∧(daR w n).2.2=true)∧(daR w n).1.Aa.length=l.length) (h4:op.length≤30∧szW ⟨k,n,l⟩≤400):au w F tr (N+1) ⟨k,n,l⟩ op=fc (auC w F tr N ⟨k,n,l⟩ op) (daR w n).1.A4:=by
 rw[gv h h2,if_neg (by rw[Wm h3];decide),if_neg (by omega),if_neg (by omega)]
theorem IH {α:Type} {f:α→Int} {l:List α} {k:Nat} (h:k<l.length) (e:f l[k]=0):fc f (l.drop k)=fc f (l.drop (k+1)):=by rw[List.drop_eq_getElem_cons h];simp only[fc];rw[if_pos e]
theorem G9 {α:Type} {f:α→Int} {l:List α} {k:Nat} (h:k<l.length) (e:¬f l[k]=0):fc f (l.drop k)=f l[k]:=by rw[List.drop_eq_getElem_cons h];simp only[fc];rw[if_neg e]
end
noncomputable def spV (w:A1) (o:A3) (s:BA'):A7:=(sol w (asm w (Ao w o).Ah) 12 (spG (Ao w o) s)).1
noncomputable def spD (w:A1) (o:A3) (s:BA'):Int:=(sol w (asm w (Ao w o).Ah) 12 (spG (Ao w o) s)).2
noncomputable def spE (w:A1) (o:A3):List A7:=if spC w o=0 then (Al w (Ao w o).AK).map (spV w o) else []
theorem Lh (w:A1) (o:A3):spC w o=fc (spD w o) (Al w (Ao w o).AK):=rfl
section
variable {w:A1} {o:A3}
theorem QA (h:fc (spD w o) (Al w (Ao w o).AK)=0):spE w o=(Al w (Ao w o).AK).map (spV w o):=if_pos h
theorem Ug (h:¬fc (spD w o) (Al w (Ao w o).AK)=0):spE w o=[]:=if_neg h
theorem cm (h:Fc w o=false):coC w o=1:=by unfold coC;rw[if_pos (by rw[h];decide)]
theorem ck (h:Fc w o=true) (h2:H4 (over w) o=true):coC w o=2:=by unfold coC;rw[if_neg (by rw[h];decide),if_pos h2]
theorem cj (h:Fc w o=true) (h2:H4 (over w) o=false) (h3:FW (Ao w o)=false):coC w o=3:=by unfold coC;rw[if_neg (by rw[h];decide),if_neg (by rw[h2];decide),if_pos (by rw[h3];decide)]
theorem ci (h:Fc w o=true) (h2:H4 (over w) o=false) (h3:FW (Ao w o)=true) (h4:ER (Ao w o)=false):coC w o=4:=by unfold coC;rw[if_neg (by rw[h];decide),if_neg (by rw[h2];decide),if_neg (by rw[h3];decide),if_pos (by rw[h4];decide)]
theorem cg (h:Fc w o=true) (h2:H4 (over w) o=false) (h3:FW (Ao w o)=true) (h4:ER (Ao w o)=true) (h5:¬spC w o=0):coC w o=5:=by unfold coC;rw[if_neg (by rw[h];decide),if_neg (by rw[h2];decide),if_neg (by rw[h3];decide),if_neg (by rw[h4];decide),if_neg h5]
theorem co (h:Fc w o=true) (h2:H4 (over w) o=false) (h3:FW (Ao w o)=true) (h4:ER (Ao w o)=true) (h5:spC w o=0):coC w o=0:=by unfold coC;rw[if_neg (by rw[h];decide),if_neg (by rw[h2];decide),if_neg (by rw[h3];decide),if_neg (by rw[h4];decide),if_pos h5]
end
noncomputable def coK (w:A1) (k:Nat):List AP:=fa (coS w) ((BF w).take k)
theorem ON (w:A1):coK w 0=[]:=by simp[coK,fa]
theorem X4 {w:A1} {k:Nat} (h:k<(BF w).length) (e:coC w (BF w)[k]=0):coK w (k+1)=coK w k:=by
 unfold coK fa;rw[Y' h,List.flatMap_append]
 simp[coS,e]
theorem Rh {w:A1} {k:Nat} (h:k<(BF w).length) (e:¬coC w (BF w)[k]=0):coK w (k+1)=coK w k++[⟨coC w (BF w)[k],(BF w)[k]⟩]:=by
 unfold coK fa;rw[Y' h,List.flatMap_append]
 simp[coS,e]
theorem Rj {w:A1} {k:Nat} (h:(BF w).length≤k):coK w k=fa (coS w) (BF w):=by unfold coK;rw[List.take_of_length_le h]
theorem Ri (w:A1) (k:Nat):(coK w k).length≤k:=by
 have h1:=Jt (gZ w) ((BF w).take k)
 unfold coK;simp only[List.length_take] at h1;omega
theorem Ww {w:A1} (h:Tc w=true):GG w=fa (coS w) (BF w):=by unfold GG;rw[if_pos h]
theorem Wv {w:A1} (h:Tc w=false):GG w=[⟨6,⟨0,0⟩⟩]:=by unfold GG;rw[if_neg (by rw[h];decide)]
theorem Qc (a b:A3):decide (a=b)=(decide (a.BA=b.BA) && decide (a.fAt=b.fAt)):=by
 cases a;cases b;simp
theorem V2 (a b:A3):decide (a=b)=(decide (b.BA=a.BA) && decide (b.fAt=a.fAt)):=by
 rw[Qc];congr 1<;>(congr 1;exact propext eq_comm)
noncomputable def mH (w:A1):Bool:=decide (feE w=[]) && decide (GG w=[])
theorem cR {w:A1} (hv:vP w) {o:A3} (ho:inR w o):GT 59999964 (Ao w o).At:=⟨_,Nat.le_trans (hv.iv o ho) (by decide),(hv.hd o ho).2⟩
theorem bX {w:A1} (hv:vP w) {o:A3} (ho:inR w o):(Ao w o).Ah.length≤4∧∀b∈(Ao w o).Ah,b.AM.wd:=⟨(hv.iw o ho).1,fun b hb=>((hv.iw o ho).2 b hb).wd⟩
theorem TG {op:List A0} {t:A0} (h:Co op t=true):t∈op:=by
 unfold Co eqT at h
 simp only[List.any_eq_true,decide_eq_true_eq] at h
 obtain⟨u,hu,rfl⟩:=h
 exact hu
theorem Vz {w:A1} {op:List A0} {t:A0} (h:∀y∈op,daT w y=true) (hd:¬daT w t=true):Co op t=false:=by
 cases e:Co op t with
 |false=>rfl
 |true=>exact absurd (h _ (TG e)) hd
theorem Zy {op:List A0} {t:A0} (h:∃x,x∈op∧eqT x t=true):Co op t=true:=by
 unfold Co;simpa using h
theorem Zz {op:List A0} {t:A0} (h:∀x,x∈op→eqT x t=false):Co op t=false:=by
 unfold Co;simpa using h
theorem l8 {w:A1} {k:Int} {n:BA'} {l:List A0} (h:(¬k=2∨(daR w n).2.2=false)∨¬(daR w n).1.Aa.length=l.length):¬daT w ⟨k,n,l⟩=true:=by
 unfold daT
 rcases h with (h|h)|h<;>simp[h]
theorem WN (g:A9):∀(F:List AD) (i:Nat),fAj F g i=match fs (ipF fun a:AD=>eqG a.DT g) i F with
  |some k=>(k:Int)
  |none=> -1
 |[],_=>rfl
 |a::F,i=>by
  have ih:=WN g F (i+1)
  simp only[fAj,fs,ipF]
  by_cases h:eqG a.DT g=true
  ·simp only[h,if_true]
  ·simp only[h,if_false,Bool.false_eq_true]
   exact ih
theorem aL (F:List AD) (g:A9):CT F (fun a=>eqG a.DT g)=fAi F g:=by
 rw[Ax];exact(WN g F 0).symm
theorem dU {w:A1} {s:BA'} (h:(trR w s).2.2=false):(trR w s).1.CP=false:=by
 unfold trR at h ⊢
 cases hq:inP A8.Aj AU.A5 w s with
 |none=>rfl
 |some x=>rw[hq] at h;cases x;cases h
theorem b9 {l:List BA'} {m:List A0} {k:Nat} (h:min l.length m.length≤k):bdK l m k=bds l m:=MW l m k h
theorem XM (w:A1) (l:List A3) (o:A3):l.any (beS w o)= !KB w l o:=by rw[XN,Bool.not_not]
theorem W2 (l:List A3) (o:A3):(l.any fun x=>decide (x=o))=H4 l o:=rfl
theorem e8 {w:A1} {g:A9} (h:(sel w g).2=0):∃s,mtc (Ao w (sel w g).1).At g.AM=some s:=by
 have h1:(sel w g).1∈C0 w g:=Lk h
 have h2:=(List.mem_filter.1 h1).2
 unfold cnd at h2
 simp only[Bool.and_eq_true] at h2
 have h3:=h2.2
 unfold mtB at h3
 exact Option.isSome_iff_exists.1 h3
theorem Ht {w:A1} {s:BA'} (h:(trR w s).2.2=true→(trR w s).1.CP=false):(trR w s).1.CP=false:=by
 cases e:(trR w s).2.2 with
 |true=>exact h e
 |false=>exact dU e
def feN (c:Int):BA':=if c=0 then ⟨#[111,107]⟩ else if c=1 then ⟨#[117,110,107,110,111,119,110,45,110,97,109,101]⟩ else if c=2 then ⟨#[97,114,105,116,121]⟩ else if c=3 then ⟨#[117,110,107,110,111,119,110,45,116,114,97,105,116]⟩ else if c=4 then ⟨#[110,111,45,97,115,115,111,99]⟩ else if c=5 then ⟨#[110,111,116,45,100,121,110,45,115,97,102,101]⟩ else if c=6 then ⟨#[109,101,116,104,111,100]⟩ else if c=7 then ⟨#[97,117,116,111,45,116,114,97,105,116]⟩ else if c=8 then ⟨#[100,117,112,108,105,99,97,116,101]⟩ else if c=9 then ⟨#[99,97,108,108]⟩ else ⟨#[63]⟩
theorem WI (c:Int):c<0∨10≤c∨c=0∨c=1∨c=2∨c=3∨c=4∨c=5∨c=6∨c=7∨c=8∨c=9:=by omega
theorem WF (c:Int):(feN c).size≤13:=by
 unfold feN;repeat' split
 all_goals decide
theorem WG {c:Int} (h:c<0):feN c=⟨#[63]⟩:=by
 unfold feN;repeat rw[if_neg (by omega)]
theorem WH {c:Int} (h:10≤c):feN c=⟨#[63]⟩:=by
 unfold feN;repeat rw[if_neg (by omega)]
theorem WD {c:Int} (h:c<0):Ap c 0 9=false:=by
 unfold Ap;simp;omega
theorem WE {c:Int} (h:10≤c):Ap c 0 9=false:=by
 unfold Ap;simp;omega
theorem RW:feN 0=⟨#[111,107]⟩∧feN 1=⟨#[117,110,107,110,111,119,110,45,110,97,109,101]⟩∧feN 2=⟨#[97,114,105,116,121]⟩∧feN 3=⟨#[117,110,107,110,111,119,110,45,116,114,97,105,116]⟩∧feN 4=⟨#[110,111,45,97,115,115,111,99]⟩∧feN 5=⟨#[110,111,116,45,100,121,110,45,115,97,102,101]⟩∧feN 6=⟨#[109,101,116,104,111,100]⟩∧feN 7=⟨#[97,117,116,111,45,116,114,97,105,116]⟩∧feN 8=⟨#[100,117,112,108,105,99,97,116,101]⟩∧feN 9=⟨#[99,97,108,108]⟩:=by decide
theorem cX:Ap 0 0 9=true∧Ap 1 0 9=true∧Ap 2 0 9=true∧Ap 3 0 9=true∧Ap 4 0 9=true∧Ap 5 0 9=true∧Ap 6 0 9=true∧Ap 7 0 9=true∧Ap 8 0 9=true∧Ap 9 0 9=true:=by decide
def coN (c:Int):BA':=if c=0 then ⟨#[111,107]⟩ else if c=1 then ⟨#[111,114,112,104,97,110]⟩ else if c=2 then ⟨#[111,118,101,114,108,97,112]⟩ else if c=3 then ⟨#[116,101,114,109,105,110,97,116,105,111,110]⟩ else if c=4 then ⟨#[97,115,115,111,99]⟩ else if c=5 then ⟨#[115,117,112,101,114,116,114,97,105,116]⟩ else if c=6 then ⟨#[99,121,99,108,101]⟩ else ⟨#[63]⟩
theorem X3 (c:Int):c<0∨7≤c∨c=0∨c=1∨c=2∨c=3∨c=4∨c=5∨c=6:=by omega
theorem X0 (c:Int):(coN c).size≤13:=by
 unfold coN;repeat' split
 all_goals decide
theorem X1 {c:Int} (h:c<0):coN c=⟨#[63]⟩:=by
 unfold coN;repeat rw[if_neg (by omega)]
theorem X2 {c:Int} (h:7≤c):coN c=⟨#[63]⟩:=by
 unfold coN;repeat rw[if_neg (by omega)]
theorem Wx {c:Int} (h:c<0):Ap c 0 6=false:=by
 unfold Ap;simp;omega
theorem Wy {c:Int} (h:7≤c):Ap c 0 6=false:=by
 unfold Ap;simp;omega
theorem Rg:coN 0=⟨#[111,107]⟩∧coN 1=⟨#[111,114,112,104,97,110]⟩∧coN 2=⟨#[111,118,101,114,108,97,112]⟩∧coN 3=⟨#[116,101,114,109,105,110,97,116,105,111,110]⟩∧coN 4=⟨#[97,115,115,111,99]⟩∧coN 5=⟨#[115,117,112,101,114,116,114,97,105,116]⟩∧coN 6=⟨#[99,121,99,108,101]⟩:=by decide
theorem cf:Ap 0 0 6=true∧Ap 1 0 6=true∧Ap 2 0 6=true∧Ap 3 0 6=true∧Ap 4 0 6=true∧Ap 5 0 6=true∧Ap 6 0 6=true:=by decide
def spB:BA':=⟨#[32]⟩
def pkN (w:A1) (i:Int):BA':=match w.A2[i.toNat]? with
 |some p=>p.A5
 |none=>⟨#[]⟩
theorem V9 (w:A1) {i:Nat} (h:i<w.A2.length):pkN w (i:Int)=w.A2[i].A5:=by
 unfold pkN;rw[Int.toNat_natCast,List.getElem?_eq_getElem h]
theorem Ln (w:A1) {i:Nat} (h:i<w.A2.length):(w.A2[i].A5).size≤w.sz:=by
 have h1:=Ae A8.sz (gm h);have h2:=w.A2[i].sz_eq;have h3:=w.sz_eq
 unfold szs at h3;omega
def feS (w:A1) (e:AO):BA':=if e.Dt=8 then feN 8 else feN e.Dt++spB++pkN w e.BA++spB++e.AH++spB++e.A5
def coT (w:A1) (e:AP):BA':=if e.Dt=6 then coN 6 else coN e.Dt++spB++pkN w e.fAt.BA++spB++CN e.fAt.fAt
noncomputable def IX (w:A1):BA':=match feE w with
 |e::_=>feS w e
 |[]=>match GG w with
  |e::_=>coT w e
  |[]=>⟨#[118,97,108,105,100]⟩
theorem ko {w:A1} {e:AO} {l:List AO} (h:feE w=e::l):IX w=feS w e:=by unfold IX;rw[h]
theorem kq {w:A1} {e:AP} {l:List AP} (h:feE w=[]) (h2:GG w=e::l):IX w=coT w e:=by unfold IX;rw[h,h2]
theorem cS {w:A1} (h:feE w=[]) (h2:GG w=[]):IX w=⟨#[118,97,108,105,100]⟩:=by unfold IX;rw[h,h2]
theorem MH {c:Int} {i:Nat} {k s:BA'} {e:AO} (h:e∈feA c i k s):e=⟨c,(i:Int),k,s⟩:=by
 unfold feA at h;split at h
 ·cases h
 ·exact List.mem_singleton.1 h
def kx (w:A1) (e:AO):Prop:=∃(i:Nat),i<w.A2.length∧e.BA=(i:Int)∧e.AH.size≤5∧e.A5.size≤w.sz
theorem eb {w:A1} {i:Nat} {e:AO} (hi:i<w.A2.length) (h:e∈pkE w i):kx w e:=by
 rw[Lo hi] at h
 have h1:=Ae A8.sz (gm hi);have h2:=w.A2[i].sz_eq;have h3:=w.sz_eq
 unfold szs at h2 h3
 unfold feP fa at h;simp only[List.mem_append,List.mem_flatMap] at h
 rcases h with ((⟨t,ht,he⟩|⟨t,ht,he⟩)|⟨t,ht,he⟩)|⟨t,ht,he⟩
 ·have h4:=Ae AU.sz ht;have h5:=t.sz_eq
  unfold feT at he;rw[MH he];exact⟨i,hi,rfl,by show kTr.size≤5;decide,by show t.A5.size≤_;omega⟩
 ·have h4:=Ae AF.sz ht;have h5:=t.sz_eq
  unfold feD at he;rw[MH he];exact⟨i,hi,rfl,by show kDa.size≤5;decide,by show t.A5.size≤_;omega⟩
 ·have h4:=Ae AJ.sz ht;have h5:=t.sz_eq
  unfold feI at he;rw[MH he];exact⟨i,hi,rfl,by show kIn.size≤5;decide,by show t.AK.size≤_;omega⟩
 ·have h4:=Ae AL.sz ht;have h5:=t.sz_eq
  unfold feF at he;rw[MH he];exact⟨i,hi,rfl,by show kFn.size≤5;decide,by show t.A5.size≤_;omega⟩
theorem kw {w:A1} {e:AO} (h:e∈feE w):e.Dt=8∨kx w e:=by
 have hd:e∈[Ci]→e.Dt=8:=fun q=>by rw[List.mem_singleton.1 q];rfl
 unfold feE at h;split at h
 ·rcases List.mem_append.1 h with q|q
  ·unfold feK at q
   obtain⟨i,hi,q⟩:=List.mem_flatMap.1 q
   exact .inr (eb (List.mem_range.1 hi) q)
  ·split at q
   ·cases q
   ·exact .inl (hd q)
 ·exact .inl (hd h)
def pS (w:A1) (e:AP):Prop:=∃(i k:Nat),i<w.A2.length∧e.fAt.BA=(i:Int)∧e.fAt.fAt=(k:Int)∧k≤w.sz
theorem lB {w:A1} {e:AP} (h:e∈GG w):e.Dt=6∨pS w e:=by
 unfold GG at h;split at h
 ·unfold fa at h
  obtain⟨o,ho,q⟩:=List.mem_flatMap.1 h
  unfold coS at q;split at q
  ·cases q
  ·rw[List.mem_singleton.1 q]
   obtain⟨i,k,hi,hk,rfl⟩:=Dc ho
   have h1:=Ae A8.sz (gm hi);have h2:=w.A2[i].sz_eq;have h3:=w.sz_eq
   unfold szs at h2 h3
   exact .inr ⟨i,k,hi,rfl,rfl,by omega⟩
 ·rw[List.mem_singleton.1 h];exact .inl rfl
theorem cT {w:A1} {e:AO} {l:List AO} (h:feE w=e::l):(∃x:AO,e=⟨8,x.BA,x.AH,x.A5⟩∧IX w=feN 8)∨∃(c:Int) (n:Nat) (k s:BA'),∃(hn:n<w.A2.length),e=⟨c,(n:Int),k,s⟩∧¬c=8∧k.size≤5∧s.size≤w.sz∧IX w=feN c++spB++w.A2[n].A5++spB++k++spB++s:=by
 rw[ko h]
 obtain⟨c,p,k,s⟩:=e
 rcases Classical.em (c=8) with h8|h8
 ·subst h8;exact .inl ⟨⟨8,p,k,s⟩,rfl,if_pos rfl⟩
 ·obtain⟨n,hn,h1,hk,hs⟩:=(kw (w:=w) (e:=⟨c,p,k,s⟩) (by rw[h];simp)).resolve_left h8
  simp only at h1 hk hs;subst h1
  exact .inr ⟨c,n,k,s,hn,rfl,h8,hk,hs,by unfold feS;rw[if_neg h8,V9 w hn]⟩
theorem cU {w:A1} {e:AP} {l:List AP} (h:feE w=[]) (h2:GG w=e::l):(∃x:AP,e=⟨6,⟨x.fAt.BA,x.fAt.fAt⟩⟩∧IX w=coN 6)∨∃(c:Int) (n m:Nat),∃(hn:n<w.A2.length),e=⟨c,⟨(n:Int),(m:Int)⟩⟩∧¬c=6∧m≤w.sz∧IX w=coN c++spB++w.A2[n].A5++spB++CN (m:Int):=by
 rw[kq h h2]
 obtain⟨c,p,a⟩:=e
 rcases Classical.em (c=6) with h6|h6
 ·subst h6;exact .inl ⟨⟨6,p,a⟩,rfl,if_pos rfl⟩
 ·obtain⟨n,m,hn,h1,h3,hm⟩:=(lB (w:=w) (e:=⟨c,⟨p,a⟩⟩) (by rw[h2];simp)).resolve_left h6
  simp only at h1 h3;subst h1;subst h3
  exact .inr ⟨c,n,m,hn,rfl,h6,hm,by unfold coT;rw[if_neg h6,V9 w hn]⟩
instance nY (n:Int):Ct cx 14 [dI' n] (InR n) (dS' (CN n)):=⟨fk1 func14,fun hp h=>by have q:=Yv n hp h;first|exact q|simpa using q⟩
instance oQ (n:Int):Ct cx 21 [dI' n] (InR n) (dS' (CN n)):=⟨fk1 func21,fun hp h=>by have q:=Zf n hp h;first|exact q|simpa using q⟩
instance iJn3 (a b c:BA'):Ct cx 18 [.d (.sl false .one [.lf (.string a),.lf (.string b),.lf (.string c)]),dS' (⟨#[32]⟩)] (a.size+b.size+c.size≤1073741000) (dS' (a++(⟨#[32]⟩:BA')++b++(⟨#[32]⟩:BA')++c)):=⟨fk1 func18,fun hp h=>by have q:=R8 [a,b,c] ⟨#[32]⟩ (by simp) (by simp) (by have h1:(⟨#[32]⟩:BA').size=1:=rfl;rw[kL];simp only[ByteArray.size_append];omega) h;rw[kL] at q;simpa using q⟩
instance iJn4 (a b c d:BA'):Ct cx 18 [.d (.sl false .one [.lf (.string a),.lf (.string b),.lf (.string c),.lf (.string d)]),dS' (⟨#[32]⟩)] (a.size+b.size+c.size+d.size≤1073741000) (dS' (a++(⟨#[32]⟩:BA')++b++(⟨#[32]⟩:BA')++c++(⟨#[32]⟩:BA')++d)):=⟨fk1 func18,fun hp h=>by have q:=R8 [a,b,c,d] ⟨#[32]⟩ (by simp) (by simp) (by have h1:(⟨#[32]⟩:BA').size=1:=rfl;rw[kK];simp only[ByteArray.size_append];omega) h;rw[kK] at q;simpa using q⟩
instance sFeN (c:Int):Ct cx 11 [dI' c] (True) (dS' ((feN c))):=by
 refine Xi func11 10 [.tmp 2] [] [] AN (@RW) ?_;intro hp h M G H E
 rcases WI c with hq|hq|rfl|rfl|rfl|rfl|rfl|rfl|rfl|rfl|rfl|rfl
 have ho:=WG hq;have hw:=WD hq;replace H:=AI ho (AI hw (AI hq H))
 rotate_left
 have ho:=WH hq;have hw:=WE hq;replace H:=AI ho (AI hw (AI hq H))
 rotate_left
 all_goals (have hv:=RW;have hu:=cX;replace H:=AI hv (AI hu H))
 all_goals exact GA0
instance sCoN (c:Int):Ct cx 13 [dI' c] (True) (dS' ((coN c))):=by
 refine Xi func13 10 [.tmp 2] [] [] AN (@Rg) ?_;intro hp h M G H E
 rcases X3 c with hq|hq|rfl|rfl|rfl|rfl|rfl|rfl|rfl
 have ho:=X1 hq;have hw:=Wx hq;replace H:=AI ho (AI hw (AI hq H))
 rotate_left
 have ho:=X2 hq;have hw:=Wy hq;replace H:=AI ho (AI hw (AI hq H))
 rotate_left
 all_goals (have hv:=Rg;have hu:=cf;replace H:=AI hv (AI hu H))
 all_goals exact GA0
instance iFeN (c:Int):Ct cx 17 [dI' c] (True) (dS' ((feN c))):=by
 refine Xi func17 17 [.tmp 2] [] [] AN (@RW) ?_;intro hp h M G H E
 rcases WI c with hq|hq|rfl|rfl|rfl|rfl|rfl|rfl|rfl|rfl|rfl|rfl
 have ho:=WG hq;have hw:=WD hq;replace H:=AI ho (AI hw (AI hq H))
 rotate_left
 have ho:=WH hq;have hw:=WE hq;replace H:=AI ho (AI hw (AI hq H))
 rotate_left
 all_goals (have hv:=RW;have hu:=cX;replace H:=AI hv (AI hu H))
 all_goals exact GA1
instance iCoN (c:Int):Ct cx 20 [dI' c] (True) (dS' ((coN c))):=by
 refine Xi func20 17 [.tmp 2] [] [] AN (@Rg) ?_;intro hp h M G H E
 rcases X3 c with hq|hq|rfl|rfl|rfl|rfl|rfl|rfl|rfl
 have ho:=X1 hq;have hw:=Wx hq;replace H:=AI ho (AI hw (AI hq H))
 rotate_left
 have ho:=X2 hq;have hw:=Wy hq;replace H:=AI ho (AI hw (AI hq H))
 rotate_left
 all_goals (have hv:=Rg;have hu:=cf;replace H:=AI hv (AI hu H))
 all_goals exact GA1
instance sOvA (a b:AJ):Ct cx 64 [.d (E6 a),.d (E6 b)] (hdS a.At∧hdS b.At∧a.sz≤134217727∧b.sz≤134217727) (dB' (ovA a b)):=by
 refine Xi func64 38 [.tmp 4] [] [] AN (@ovA.eq_1) ?_;intro hp h M G H E
 obtain⟨ho1,ho2,ho3,ho4⟩:=hp;have haz:=a.sz_eq;have hbz:=b.sz_eq;unfold szs at haz hbz;have hz1:a.At.sz≤134217727:=(by omega);have hz2:b.At.sz≤134217727:=(by omega);replace H:=AI ho1 (AI ho2 (AI hz1 (AI hz2 H)))
 all_goals exact GA1
instance sOver (w:A1):Ct cx 30 [.d (Au w)] (vP w) (.d (.sl true CX (((over w)).map (A3.dd true)))):=by
 refine Xi func30 55 [.tmp 2] [47,54] [] AN (@JP) ?_;intro hp h M G H E
 have hvz:=hp.sz;have hvz2:w.sz≤134217728:=(by omega);have hrl:=Dj w;replace H:=AI hvz2 H
 repeat' (first|(refine IN.mk ?_;intros)|(refine iTw ?_;refine T2 ?_ ?_<;>((try clear H);intro hb H)<;>try (first|exact hb.elim|(exfalso;omega)))|(refine LF.mk ?_;exact LX)|refine GN ?_|(refine XL [1,4] [1] (fun k0 _=>[(5,dI' k0),(3,.d (.sl true CX (((ovK w (BF w) k0)).map (A3.dd true))))]) (fun _ _=>[]) ((BF w).length) (fun _ _=>True) rU ?_;intro k0 hk0 s0 hi0;have hol:=Ls w (BF w) k0;by_cases hkk:k0<(BF w).length;rotate_left;(have hoe:ovK w (BF w) k0=over w:=(by rw[show k0=(BF w).length by omega];rfl);replace H:=AI hoe H);rotate_left;have hr0:=Dc (gm hkk);have hd0:=(hp.hd _ hr0).1;have hs0:=Nat.le_trans (C9 hr0) hvz;replace H:=AI hr0 (AI hd0 (AI hs0 H)))|(refine XC [1,3,4,5,6] [1,6] 8 (k0) (fun k1=>bdA w (BF w)[k0] ((BF w).take k0)=bdA w (BF w)[k0] (((BF w).take k0).drop k1)) ?_;intro k1 hk1 hi1;by_cases hkj:k1<k0;rotate_left;have hon:=VJ w hkk (hi1.trans (Rt w _ (by simp;omega)));replace H:=AI hon H;rotate_left;have hkl:k1<(BF w).length:=(by omega);have hbn:=XU w (BF w)[k0] hkj hkl;have hoy:=fun (h:ovA (Ao w (BF w)[k1]) (Ao w (BF w)[k0])=false)=>Qi w hkk (hi1.trans (XR hbn h));have hox:=fun (h:ovA (Ao w (BF w)[k1]) (Ao w (BF w)[k0])=true)=>hi1.trans (XS hbn h);have hr1:=Dc (gm hkl);have hd1:=(hp.hd _ hr1).1;have hs1:=Nat.le_trans (C9 hr1) hvz;replace H:=AI hr1 (AI hd1 (AI hs1 H)))|fail)
instance sCand (w:A1) (g:A9):Ct cx 415 [.d (Au w),.d (Du g)] (vP w∧GT 67108864 g.AM) (.d (.sl true CX (((C0 w g)).map (A3.dd true)))):=by
 refine Xi func415 55 [.tmp 4] [34,47,54] [] AN (AI @cnd.eq_1<|@WB) ?_;intro hp h M G H E
 have hv:=hp.1;have hvz:=hv.sz;have hvz2:w.sz≤134217728:=(by omega);have hrl:=Dj w;have hgw:=hp.2.wd;replace H:=AI hvz2 (AI hgw H)
 repeat' (first|exact true|(refine IN.mk ?_;intros)|(refine iTw ?_;refine T2 ?_ ?_<;>((try clear H);intro hb H)<;>try (first|exact hb.elim|(exfalso;omega)|(exfalso;grind)))|(refine LF.mk ?_;exact LX)|refine BO.mk ?_ ?_|(apply iPJ;exact NPJ)|apply PXs.of|refine GN ?_|(refine XL [2,3,6] [2,3] (fun k0 _=>[(7,dI' k0),(5,.d (.sl true CX (((fiK (cnd w g) (BF w) k0)).map (A3.dd true))))]) (fun _ _=>[]) ((BF w).length) (fun _ _=>True) rU ?_;intro k0 hk0 s0 hi0;have hol:=aI (cnd w g) (BF w) k0;by_cases hkk:k0<(BF w).length;rotate_left;have hoe:fiK (cnd w g) (BF w) k0=C0 w g:=aJ (by omega);replace H:=AI hoe H;rotate_left;have hr0:inR w (BF w)[k0]:=Dc (gm hkk);have hd0:=(hv.hd _ hr0).1;have hs0:=C9 hr0;have hw0:(Ao w (BF w)[k0]).At.sz≤134217727:=(by have hq:=(Ao w (BF w)[k0]).sz_eq;unfold szs at hq;omega);have ht0:AR (Ao w (BF w)[k0]).At≤134217728:=Nat.le_trans hd0.1 (by decide);replace H:=AI hr0 (AI hd0 (AI hw0 (AI ht0 H)));obtain⟨i0,j0,hx0,hy0,he0⟩:=hr0;have hI0:=Da hx0 hy0;replace H:=AI he0 (AI hI0 (AI hx0 (AI hy0 H)));have hcy:=@fx w g k0 hkk;have hcn:=@fy w g k0 hkk;rw[he0,hI0] at hcy hcn;rcases Classical.em (w.A2[i0].AQ[j0].AK=g.AK∧mtB w.A2[i0].AQ[j0].At g.AM=true) with hc|hc;have hce:=hcy hc;replace H:=AI hc (AI hce H);rotate_left;have hce:=hcn (by grind);replace H:=AI hce H;rotate_left)|fail)
instance sSel (w:A1) (g:A9):Ct cx 370 [.d (Au w),.d (Du g)] (vP w∧GT 67108864 g.AM) (.tp [.d (.st [.lf (.int .i64 ((sel w g).1.BA)),.lf (.int .i64 ((sel w g).1.fAt))]),dI' ((sel w g).2)]):=by
 refine Xi func370 88 [.cell 4 49,.tmp 5] [37,60] [] AN (AI @beS.eq_1<|@XO) ?_;intro hp h M G H E
 have hv:=hp.1;have hvz:=hv.sz;have hvz2:w.sz≤134217728:=(by omega);have hrl:=Dj w;have hgw:=hp.2.wd;replace H:=AI hvz2 (AI hgw H)
 have hgv:=hp.2;have hgo:=hp.2.tvO (Nat.le_refl _);have hcl:=OZ w g;replace H:=AI hgv (AI hgo H)
 repeat' (first|exact true|(refine IN.mk ?_;intros)|(refine iTw ?_;refine T2 ?_ ?_<;>((try clear H);intro hb H)<;>try (first|exact hb.elim|(exfalso;omega)))|(refine LF.mk ?_;exact LX)|refine BO.mk ?_ ?_|(apply iPJ;exact NPJ)|apply PXs.of|refine GN ?_|(refine XC [2,3,4,6] [2,3,4] 7 ((C0 w g).length) (fun k0=>sel w g=JH w g ((C0 w g).drop k0)) ?_;intro k0 hk0 hi0;have hse:=fun h:(C0 w g).length≤k0=>hi0.trans (NK w g h);by_cases hkk:k0<(C0 w g).length;rotate_left;have hse2:=hse (by omega);replace H:=AI hse2 H;rotate_left;have hr0:inR w (C0 w g)[k0]:=HM (gm hkk);have hd0:=(hv.hd _ hr0).1;have hs0:=C9 hr0;have hw0:(Ao w (C0 w g)[k0]).At.sz≤134217727:=(by have hq:=(Ao w (C0 w g)[k0]).sz_eq;unfold szs at hq;omega);have ht0:AR (Ao w (C0 w g)[k0]).At≤134217728:=Nat.le_trans hd0.1 (by decide);replace H:=AI hr0 (AI hd0 (AI hw0 (AI ht0 H)));obtain⟨i0,j0,hx0,hy0,he0⟩:=hr0;have hI0:=Da hx0 hy0;replace H:=AI he0 (AI hI0 (AI hx0 (AI hy0 H)));have hsa:=hi0.trans (QR w g hkk);rw[he0,hI0] at hsa;replace H:=AI hsa H)|(refine XL [2,3,4,6,7,8] [2,3,4,8] (fun k1 _=>[(10,dI' k1),(9,dB' ((beK w (C0 w g) (⟨(i0:Int),(j0:Int)⟩:A3) k1)))]) (fun _ _=>[]) ((C0 w g).length) (fun _ _=>True) rU ?_;intro k1 hk1 s1 hi1;by_cases hkj:k1<(C0 w g).length;rotate_left;(have hbe:=b8 w (⟨(i0:Int),(j0:Int)⟩:A3) (show(C0 w g).length≤k1 by omega);replace H:=AI hbe H);rotate_left;have hr1:inR w (C0 w g)[k1]:=HM (gm hkj);have hd1:=(hv.hd _ hr1).1;have hs1:=C9 hr1;have hw1:(Ao w (C0 w g)[k1]).At.sz≤134217727:=(by have hq:=(Ao w (C0 w g)[k1]).sz_eq;unfold szs at hq;omega);have ht1:AR (Ao w (C0 w g)[k1]).At≤134217728:=Nat.le_trans hd1.1 (by decide);replace H:=AI hr1 (AI hd1 (AI hw1 (AI ht1 H)));obtain⟨i1,j1,hx1,hy1,he1⟩:=hr1;have hI1:=Da hx1 hy1;replace H:=AI he1 (AI hI1 (AI hx1 (AI hy1 H)));have hbn:=gp w (⟨(i0:Int),(j0:Int)⟩:A3) hkj;unfold beS at hbn;rw[he1,hI0,hI1] at hbn;replace H:=AI hbn H)|fail)
instance (priority:=2000) sFA3 (F:List AD) (tr:BA') (k:Int) (n:BA') (l:List A0):Ct cx 299 [.d (.sl false Bf ((F).map (AD.dd false))),.d (.st [.lf (.string tr),uK k n l])] (F.length≤134217728) (dI' (fAi F ⟨tr,⟨k,n,l⟩⟩)):=⟨(sFA F ⟨tr,⟨k,n,l⟩⟩).ok,fun hp h=>by have q:=(sFA F ⟨tr,⟨k,n,l⟩⟩).cs hp h;first|exact q|simpa using q⟩
theorem jt (w:A1) (F:List AD) (tr:BA'):∀(N:Nat) (k:Int) (n:BA') (l:List A0) (op:List A0),Ct cx 301 [.d (Au w),.d (.sl false Bf ((F).map (AD.dd false))),.d (.st [.lf (.string tr),uK k n l]),.d (.sl false Ai ((op).map (A0.dd false)))] (vP w∧fOk F∧op.length+N=32∧op.length≤31∧GT (67108864 - 3*N) (⟨k,n,l⟩:A0)) (dI' (au w F tr N (⟨k,n,l⟩:A0) op)):=by
 intro N
 induction N with
 |zero=>intro k n l op;exact⟨fk1 func301,fun hp=>absurd hp.2.2.1 (by have:=hp.2.2.2.1;omega)⟩
 |succ N ih=>
 intro k n l op
 have jj:∀(k2:Int) (n2:BA') (l2:List A0),Ct cx 301 [.d (Au w),.d (.sl false Bf ((F).map (AD.dd false))),.d (.st [.lf (.string tr),uK k2 n2 l2]),.d (.sl false Ai (op.map (A0.dd false)++[(uK k n l)]))] (vP w∧fOk F∧(op++[(⟨k,n,l⟩:A0)]).length+N=32∧(op++[(⟨k,n,l⟩:A0)]).length≤31∧GT (67108864 - 3*N) (⟨k2,n2,l2⟩:A0)) (.d (.lf (.int .i64 (au w F tr N (⟨k2,n2,l2⟩:A0) (op++[(⟨k,n,l⟩:A0)]))))):=fun k2 n2 l2=>by have q:=ih k2 n2 l2 (op++[(⟨k,n,l⟩:A0)]);simpa using q
 refine Xi func301 153 [.tmp 8] [92,103,108,111] [] AN (@Oc) ?_;intro hp h M G H E
 obtain⟨hv,hf,hon,hol,hgt⟩:=hp;have hvz:=hv.sz;have hvz2:w.sz≤134217728:=(by omega);have hfl:=hf.1;have hgw:=hgt.wd;have hlw:=D0 hgw;have hlb:=Bj hgw;have hdv:=hv.dv n;have hdz:=PU w n;have hde:=(daR w n).1.sz_eq;unfold szs at hde;replace H:=AI hvz2 (AI hfl (AI hgw (AI hv (AI hf H))))
 repeat' (first|exact true|(refine LF.mk ?_;rw[gu hb])|(refine LF.mk ?_;rw[lJ (hoa.trans (by rw[hb];rfl))])|(refine LF.mk ?_;exact hoa.trans (by rw[hb];rfl))|(refine LF.mk ?_;rw[lI (by assumption) hoe hb])|(refine LF.mk ?_;rw[lH (by assumption) hoe (by assumption) hb])|(refine LF.mk ?_;rw[bD (by assumption) hoe (by assumption) (by assumption),hce])|(refine LF.mk ?_;exact hi2.trans (IH hk2' (hcx.trans hde3)))|(refine LF.mk ?_;exact hi3.trans (IH hk3' (hcy.trans hb)))|(refine LF.mk ?_;rw[bD (by assumption) hoe (by assumption) (by assumption),hi2.trans (G9 hk2' (by rw[hcx,hi3.trans (G9 hk3' (by rw[hcy];exact hb)),hcy];exact hb)),hcx,hi3.trans (G9 hk3' (by rw[hcy];exact hb)),hcy])|(refine IN.mk ?_;intros)|(refine iTw ?_;refine T2 ?_ ?_<;>((try clear H);intro hb H)<;>try (first|exact hb.elim|(exfalso;omega)))|(refine LF.mk ?_;exact LX)|refine BO.mk ?_ ?_|(apply iPJ;exact NPJ)|apply PXs.of|refine GN ?_|(refine XC [1,3,4,6] [4,6] 9 (op.length) (fun k0=>Co op (⟨k,n,l⟩:A0)=Co (op.drop k0) (⟨k,n,l⟩:A0)) ?_;intro k0 hk0 hi0;by_cases hkk:k0<op.length;rotate_left;(have hoe:=hi0.trans (TH (t:=(⟨k,n,l⟩:A0)) (show op.length≤k0 by omega));replace H:=AI hoe H);rotate_left;have hoa:=hi0.trans (W0 (t:=(⟨k,n,l⟩:A0)) hkk))|(refine XL [1,3,4,6,10] [4,6,10] (fun k1 _=>[(14,dI' k1),(13,.d (.sl true BB (((bdK (daR w n).1.Aa l k1)).map (A6.dd false))))]) (fun _ _=>[]) ((daR w n).1.Aa.length) (fun _ _=>True) rU ?_;intro k1 hk1 s1 hi1;have hbl:=Rs (daR w n).1.Aa l k1;have hvl:(daR w n).1.Aa.length=l.length:=(by omega);by_cases hkv:k1<(daR w n).1.Aa.length;rotate_left;have hbe:bdK (daR w n).1.Aa l k1=(bds (daR w n).1.Aa l):=bA (.inl (by omega));replace H:=AI hbe H;rotate_left;have hbn:=XV (l:=(daR w n).1.Aa) (m:=l) hkv (by omega);replace H:=AI hbn H)|(refine XC [1,4,6,10,13,15] [4,6,10] 16 ((daR w n).1.A4.length) (fun k2=>fc (auC w F tr N (⟨k,n,l⟩:A0) op) (daR w n).1.A4=fc (auC w F tr N (⟨k,n,l⟩:A0) op) ((daR w n).1.A4.drop k2)) ?_;intro k2 hk2 hi2;by_cases hk2':k2<(daR w n).1.A4.length;rotate_left;(have hce:=hi2.trans (Az (f:=(auC w F tr N (⟨k,n,l⟩:A0) op)) (show(daR w n).1.A4.length≤k2 by omega)));rotate_left;have hcx:(auC w F tr N (⟨k,n,l⟩:A0) op) (daR w n).1.A4[k2]=fc (auF w F tr N (⟨k,n,l⟩:A0) op) (daR w n).1.A4[k2].Av:=rfl)|(refine XC [1,4,6,10,13,15,16] [4,6,10] 17 ((daR w n).1.A4[k2].Av.length) (fun k3=>fc (auF w F tr N (⟨k,n,l⟩:A0) op) (daR w n).1.A4[k2].Av=fc (auF w F tr N (⟨k,n,l⟩:A0) op) ((daR w n).1.A4[k2].Av.drop k3)) ?_;intro k3 hk3 hi3;by_cases hk3':k3<(daR w n).1.A4[k2].Av.length;rotate_left;(have hde3:=hi3.trans (Az (f:=(auF w F tr N (⟨k,n,l⟩:A0) op)) (show(daR w n).1.A4[k2].Av.length≤k3 by omega)));rotate_left;(have hgg:=XY hv hgt (gm hk2') (gm hk3');have hgg2:GT (67108864 - 3*N) (ap (bds (daR w n).1.Aa l) (daR w n).1.A4[k2].Av[k3]):=hgg.mono (show 67108864 - 3*(N+1)+3≤67108864 - 3*N by omega);have hpq:vP w∧fOk F∧(op++[(⟨k,n,l⟩:A0)]).length+N=32∧(op++[(⟨k,n,l⟩:A0)]).length≤31∧GT (67108864 - 3*N) (ap (bds (daR w n).1.Aa l) (daR w n).1.A4[k2].Av[k3]):=⟨hv,hf,by simp;omega,by simp;omega,hgg2⟩;have hcy:(auF w F tr N (⟨k,n,l⟩:A0) op) (daR w n).1.A4[k2].Av[k3]=au w F tr N (ap (bds (daR w n).1.Aa l) (daR w n).1.A4[k2].Av[k3]) (op++[(⟨k,n,l⟩:A0)]):=rfl;have hfw:=(hv.da n _ _ (gm hk2') (gm hk3')).wd;have hbw:∀b∈(bds (daR w n).1.Aa l),b.AM.wd:=XQ hgw;replace H:=AI hpq (AI hfw (AI hbw H))))|fail)
instance sAu (w:A1) (F:List AD) (tr:BA') (k:Int) (n:BA') (l:List A0):Ct cx 301 [.d (Au w),.d (.sl false Bf ((F).map (AD.dd false))),.d (.st [.lf (.string tr),uK k n l]),.d (.sl false Ai [])] (vP w∧fOk F∧GT 67108768 (⟨k,n,l⟩:A0)) (dI' (au w F tr 32 (⟨k,n,l⟩:A0) [])):=⟨fk1 func301,fun hp h=>(jt w F tr 32 k n l []).cs ⟨hp.1,hp.2.1,rfl,Nat.zero_le _,hp.2.2⟩ h⟩
instance nv (l:List A3) (o:A3):Ct cx 66 [.d (.sl false CX ((l).map (A3.dd false))),.d (FU o)] (True) (dB' (H4 l o)):=by
 refine Xi func66 18 [.tmp 4] [] [] AN (AI @a6<|@W1) ?_;intro hp h M G H E
 repeat' (first|(refine iDL ?_;refine XrD ?_)|(refine IN.mk ?_;intros)|(refine iTw ?_;refine T2 ?_ ?_<;>((try clear H);intro hb H)<;>try (first|exact hb.elim|(exfalso;omega)))|(refine LF.mk ?_;exact LX)|refine GN ?_|(refine XC [0,3] [3] 5 (l.length) (fun k0=>H4 l o=H4 (l.drop k0) o) ?_;intro k0 hk0 hi0;by_cases hkk:k0<l.length;have hrd:=Qc l[k0] o;replace H:=AI hrd H;rotate_left;rotate_left)|fail)
instance iIdxR (l:List A3) (o:A3):Ct cx 168 [.d (.sl false CX ((l).map (A3.dd false))),.d (FU o)] (True) (dI' (CT l fun x=>decide (x=o))):=by
 refine Xi func168 19 [.tmp 4] [] [] AN (AI @Ax<|AI @ipF.eq_1<|AI @Ay<|@As) ?_;intro hp h M G H E
 repeat' (first|(refine iDL ?_;refine XrD ?_)|(refine IN.mk ?_;intros)|(refine iTw ?_;refine T2 ?_ ?_<;>((try clear H);intro hb H)<;>try (first|exact hb.elim|(exfalso;omega)))|(refine LF.mk ?_;exact LX)|refine GN ?_|(refine XC [0,3,7] [3] 8 (l.length) (fun k0=>fs (ipF fun x=>decide (x=o)) 0 l=fs (ipF fun x=>decide (x=o)) k0 (l.drop k0)) ?_;intro k0 hk0 hi0;by_cases hkk:k0<l.length;have hrd:=V2 l[k0] o;replace H:=AI hrd H;rotate_left;rotate_left)|fail)
instance iConR (l:List A3) (o:A3):Ct cx 107 [.d (.sl false CX ((l).map (A3.dd false))),.d (FU o)] (True) (dB' (H4 l o)):=by
 refine Xi func107 9 [.tmp 4] [] [] AN (AI @Bi<|@W2) ?_;intro hp h M G H E
 all_goals exact GA0
theorem KX (l:List AD) (g:Nat) (cs:List AV) (p:AD→Bool) (pp:AD→Prop) (hv:VwC cs) (hi:∀y:AD,Ct cx g (.d (dO y)::cs) (pp y) (dB' (p y))) (hq:∀y∈l,pp y) (h:HP):CS cx.P 390 [.d (.sl false Bf ((l).map (AD.dd false))),.fn g cs] h (dI' (CT l p)) h:=by
 refine Xe func390 rfl 19 [.tmp 4] ?_
 let M:List Nat:=[]
 let G:List Nat:=[]
 have H:=AN
 have hq2:∀k (hk:k<l.length),pp l[k]:=fun k hk=>hq _ (gm hk)
 replace H:=AI hv.all H
 repeat' (first|refine GO ?_|(refine Two.mk ?_ ?_<;>intro hb<;>(try simp at hb)<;>(try norm_cast at hb)<;>try replace H:=HN hb H)|(refine RG.mk ?_;(try clear hK hD);first|intro _ K hD hK|intro K hD hK)|(refine RF.mk ?_;intro hr)|(refine LF.mk ?_;(try clear hK hD);first|rfl|(simp[Ax,ipF,Ay,As, *];done)|(simp_all [Ax,ipF,Ay,As];done)|grind [Ax,ipF,Ay,As]))
 refine W.loopR [0,1,7] [] (fun k0 _=>[(8,dI' k0)]) (fun _ _=>[]) (l.length) (fun k0 _=>fs (ipF p) 0 l=fs (ipF p) k0 (l.drop k0)) (fun S=>()) rfl (by simp[H]) (by first|trivial|rfl|(simp;done)|(simp[Ax,ipF,Ay,As];done)|(simp_all [Ax,ipF,Ay,As];done)) ?_
 intro k0 hk0 s0 hi0 T hT;simp at hT;subst hT
 all_goals exact GA3
instance Td (l:List AD) (g:Nat) (cs:List AV) (p:AD→Bool) (pp:AD→Prop) [hv:VwC cs] [hi:∀y:AD,Ct cx g (.d (dO y)::cs) (pp y) (dB' (p y))]:Ct cx 390 [.d (.sl false Bf ((l).map (AD.dd false))),.fn g cs] (∀y∈l,pp y) (dI' (CT l p)):=⟨fk1 func390,fun hq h=>KX l g cs p pp hv hi hq h⟩
instance iFAC (y:AD) (g:A9):Ct cx 391 [.d (dO y),.el (Du g)] (True) (dB' (eqG y.DT g)):=by
 refine Xi func391 8 [.tmp 3] [] [] AN trivial ?_;intro hp h M G H E
 all_goals exact GA0
instance iFA (F:List AD) (g:A9):Ct cx 335 [.d (.sl false Bf ((F).map (AD.dd false))),.d (Du g)] (F.length≤134217728) (dI' (fAi F g)):=by
 refine Xi func335 8 [.tmp 4] [] [] AN (@aL) ?_;intro hp h M G H E
 have htr:∀y∈F,True:=(fun _ _=>trivial);replace H:=AI htr H
 repeat' (first|(refine W.fzR (id:=1) 3 3 [0] [] ?_)|(refine IN.mk ?_;intros)|(refine iTw ?_;refine T2 ?_ ?_<;>((try clear H);intro hb H)<;>try exact hb.elim)|(refine LF.mk ?_;exact LX)|refine GN ?_)
instance (priority:=2000) iFA3 (F:List AD) (tr:BA') (k:Int) (n:BA') (l:List A0):Ct cx 335 [.d (.sl false Bf ((F).map (AD.dd false))),.d (.st [.lf (.string tr),uK k n l])] (F.length≤134217728) (dI' (fAi F ⟨tr,⟨k,n,l⟩⟩)):=⟨(iFA F ⟨tr,⟨k,n,l⟩⟩).ok,fun hp h=>by have q:=(iFA F ⟨tr,⟨k,n,l⟩⟩).cs hp h;first|exact q|simpa using q⟩
instance oj (v:List BA') (m:List A0):Ct cx 394 [.d (.sl false .one ((v).map (dS))),.d (.sl false Ai ((m).map (A0.dd false)))] (v.length≤134217728) (.d (.sl true BB (((bds v m)).map (A6.dd false)))):=by
 refine Xi func394 30 [.tmp 4] [16,24,29] [] AN (@Oc) ?_;intro hp h M G H E
 repeat' (first|(refine IN.mk ?_;intros)|(refine iTw ?_;refine T2 ?_ ?_<;>((try clear H);intro hb H)<;>try (first|exact hb.elim|(exfalso;omega)))|(refine LF.mk ?_;exact LX)|refine GN ?_|(refine XL [0,1,12] [] (fun k0 _=>[(13,dI' k0),(5,.d (.sl true BB (((bdK v m k0)).map (A6.dd false))))]) (fun _ _=>[]) (min v.length m.length) (fun _ _=>True) rU ?_;intro k0 hk0 s0 hi0;have hbl:=Rs v m k0;by_cases hkv:k0<min v.length m.length;rotate_left;have hbe:bdK v m k0=bds v m:=b9 (by omega);replace H:=AI hbe H;rotate_left;have hb1:k0<v.length:=(by omega);have hb2:k0<m.length:=(by omega);have hbn:=XV (l:=v) (m:=m) hb1 hb2;replace H:=AI hbn H)|fail)
instance iCloT (l:List A0):Ct cx 395 [.d (.sl false Ai ((l).map (A0.dd false)))] (l.length≤134217728) (.d (.sl true Ai ((l).map (A0.dd false)))):=by
 refine Xi func395 8 [.tmp 2] [6] [] AN trivial ?_;intro hp h M G H E
 repeat' (first|(refine iWL ?_;refine WL.opNil rfl 83 83 4 _ rfl rfl (by simp) underlying83 rfl trivial fun b4 hnil4=> ?_;rcases b4 with _|_;rotate_left;(have hl:l=[]:=(by have:=hnil4 rfl;simpa using this));replace H:=AI hl H;rotate_left)|(refine IN.mk ?_;intros)|(refine iTw ?_;refine T2 ?_ ?_<;>((try clear H);intro hb H)<;>try exact hb.elim)|(refine LF.mk ?_;exact LX)|refine GN ?_)
