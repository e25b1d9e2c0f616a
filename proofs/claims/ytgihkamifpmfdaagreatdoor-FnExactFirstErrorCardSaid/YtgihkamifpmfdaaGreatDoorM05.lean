/- Part 05. No condition. -/
import Derived.Test.YtgihkamifpmfdaaGreatDoorM04
namespace Go.Proofs.YtgihkamifpmfdaaGreatDoor
open Go.RowKit
set_option linter.unusedVariables false
set_option linter.unusedSimpArgs false
theorem M2 {w:World} {F:Nat→Nat} {g:Nat} {cur arr:Array Value} {t:TypeId} {n:Nat} (hg:w.heap[g]? =some (.cells cur t (0,0))) (hn:F g≤n) (hc:∀o,o<F g→arr[o]? =cur[o]?):
  Ks w F (w.setRow g arr) (upd F g n) (fun b=>b=g) where
 os:=rfl
 tape:=rfl
 output:=rfl
 size:=by simp
 cell:=fun b o ho=>by
  by_cases hb:b=g
  ·subst hb
   rw[cell_of_row (w.setRow b arr) b o arr t (0,0) (setRow_heap w b cur arr t (0,0) hg),cell_of_row w b o cur t (0,0) hg]
   exact hc o ho
  ·exact World.cell?_of_block (w:=w) (a:=⟨b,o,none⟩) (setRow_other w g b arr hb)
 mono:=fun b=>by
  by_cases hb:b=g
  ·subst hb;rw[Aw];exact hn
  ·rw[BE _ _ hb];exact Nat.le_refl _
 out:=fun b _ hne=>⟨setRow_other w g b arr hne,BE _ _ hne⟩
theorem Fi {w:World} {F:Nat→Nat} {o:Obj} {n:Nat} (E:Nat→Prop) (ht:∀b,w.heap.size≤b→F b=0):Ks w F (w.alloc o) (upd F w.heap.size n) E where
 os:=rfl
 tape:=rfl
 output:=rfl
 size:=by simp
 cell:=fun b q hq=>by
  have hb:b<w.heap.size:=by
   rcases Nat.lt_or_ge b w.heap.size with h|h
   ·exact h
   ·rw[ht b h] at hq;omega
  exact World.cell?_of_block (w:=w) (a:=⟨b,q,none⟩) (Below.heap_alloc w o b hb)
 mono:=fun b=>by
  by_cases hb:b=w.heap.size
  ·subst hb;rw[ht _ (Nat.le_refl _)];omega
  ·rw[BE _ _ hb];exact Nat.le_refl _
 out:=fun b hb _=>⟨Below.heap_alloc w o b hb,BE _ _ (by omega)⟩
theorem Ks.drew {w w':World} {F F':Nat→Nat} {E:Nat→Prop} (h:Ks w.drew F w' F' E):Ks w F w' F' E:=⟨h.os,h.tape,h.output,h.size,h.cell,h.mono,h.out⟩
theorem Gd {w:World} {F:Nat→Nat} {o:Obj} {n:Nat} (ht:∀b,w.heap.size≤b→F b=0):∀b,(w.alloc o).heap.size≤b→upd F w.heap.size n b=0:=fun b hb=>by
 have hb':w.heap.size+1≤b:=by simpa using hb
 rw[BE _ _ (by omega)];exact ht b (by omega)
theorem Ks.kp {w w':World} {F F':Nat→Nat} {E:Nat→Prop} (h:Ks w F w' F' E) {bs:List Nat} (hl:∀b∈bs,b<w.heap.size) (hn:∀b∈bs,¬E b):Kp w F w' F' bs:=⟨h.cell,h.mono,fun b hb=>h.out b (hl b hb) (hn b hb)⟩
theorem QY {w:World} {F:Nat→Nat} {s:Sh} {es:List DD} {xs:List Value} {r:List Nat} {cap:Nat} {e:TypeId} {arr:Array Value} (hs:∀d∈es,d.sh=s) (h0:0<s.w) (h:rpS w F es xs r) (hr:∀b∈r,b<w.heap.size) (ht:∀b,w.heap.size≤b→F b=0)
  (hx:arr.toList.take xs.length=xs) (hc:es.length≤cap) (hm:cap≤maxLen) (hz:cap*s.w≤arr.size):
  rp (w.alloc (.cells arr e)) (upd F w.heap.size (es.length*s.w)) (.sl true s es) [.slice (some ⟨w.heap.size,0,none⟩) es.length cap] (w.heap.size::r):=by
 have k:=(Fi (o:=.cells arr e) (n:=es.length*s.w) (fun _=>False) ht).kp hr (by simp)
 have hxl:=rpS.length es xs r h
 rw[DD.shs_eq,Sh.ws_map es hs] at hxl
 have hat:(w.alloc (.cells arr e)).heap[w.heap.size]? =some (.cells arr e (0,0)):=KI rfl
 simp only[rp]
 refine⟨hs,h0,_,cap,rfl,hc,hm,by simp,.inr ⟨w.heap.size,0,r,rfl,rpS.toE es xs 0 r (rpS.keep es xs r h k) ?_,by rw[Aw];omega,.inr ⟨trivial,rfl,rfl,Aw _ _ _,arr,e,hat,hz⟩⟩⟩
 intro j u hu
 have hj:=(List.getElem?_eq_some_iff.1 hu).1
 rw[cell_of_row _ _ _ _ e (0,0) hat]
 have hu2:(arr.toList.take xs.length)[j]? =some u:=by rw[hx];exact hu
 rw[List.getElem?_take_of_lt hj] at hu2
 simpa using hu2
section
variable {P:Program} (w:World)
theorem Hf (t ty e t0:TypeId) (i:TypeInfo) (ht:P.underlying t=some (.slice e)) (hi:P.info? e=some i)
  (g sLen sCap:Nat) (cur:Array Value) (hg:w.heap[g]? =some (.cells cur t0 (0,0)))
  (a:Addr) (m c:Nat) (news:List Value) (hl:news.length=m*i.size) (hnews:∀j u,news[j]? =some u→w.cell? (a.add j)=some u) (h1:∀u∈news,u.oneCell'=true)
  (hroom:sLen+m≤sCap) (hfit:sLen*i.size+news.length≤cur.size):
  (Builtin.append_ #[t,t] ty #[.slice (some ⟨g,0,none⟩) sLen sCap,.slice (some a) m c]).run P w=
   .ok (.slice (some ⟨g,0,none⟩) (sLen+m) sCap) (w.setRow g (cur.toList.take (sLen*i.size)++news++cur.toList.drop (sLen*i.size+news.length)).toArray):=by
 have hf:=run_firstCells_some (P:=P) w i.size m a m c news hl hnews
 have hst:=run_storeCells_at P g (sLen*i.size) t0 news 0 cur w hg (by simpa using hfit) h1
 simp only[Nat.add_zero] at hst
 simp[Builtin.append_,run_underlying ht,sizeOf,typeInfo,hi,Builtin.lenOf,hroom,hf,Addr.add_lit,hst]
theorem IQ (t ty e:TypeId) (i:TypeInfo) (ht:P.underlying t=some (.slice e)) (hi:P.info? e=some i) (a a2:Option Addr) (n cap c:Nat) (hn:n≤cap):
  (Builtin.append_ #[t,t] ty #[.slice a n cap,.slice a2 0 c]).run P w=.ok (.slice a n cap) w:=by
 cases a<;>cases a2<;>simp[Builtin.append_,run_underlying ht,sizeOf,typeInfo,hi,Builtin.lenOf,hn,Builtin.firstCells,loadCells,loadCellsFrom,storeCells]
end
theorem LJ {P:Program} {w:World} {F:Nat→Nat} (T ty e:TypeId) (ii:TypeInfo) {s:Sh} (z:DD) (zc:List Value) (hu:P.underlying T=some (.slice e)) (hi:P.info? e=some ii) (his:ii.size=s.w) (hiz:ii.zero=some (z.mk zc)) (hz:∀w F,rp w F z zc []) (hzs:z.sh=s)
  {es ys:List DD} {ox:Bool} {vs vx:Value} {b1 b2:List Nat} (hS:rp w F (.sl true s es) [vs] b1) (hX:rp w F (.sl ox s ys) [vx] b2) (hn:(b1++b2).Nodup) (hl:∀b∈b1++b2,b<w.heap.size) (ht:∀b,w.heap.size≤b→F b=0)
  (hm:es.length+ys.length≤maxLen) (hby:(es.length+ys.length)*ii.bytes≤140737488355328):
  ∃v' w' F' bs,(Builtin.append_ #[T,T] ty #[vs,vx]).run P w=.ok v' w'∧rp w' F' (.sl true s (es++ys)) [v'] bs∧Ks w F w' F' (fun b=>b∈b1)∧bs.Nodup∧(∀b∈bs,b∈b1++b2∨w.heap.size≤b)∧(∀b∈bs,b<w'.heap.size)∧
   (∀b,w'.heap.size≤b→F' b=0)∧∀x∈bs.head?,x∈b1.head? ∨w.heap.size≤x:=by
 have hS0:=hS
 simp only[rp] at hS hX
 obtain⟨hs,h0,a,cap,hv,g1,g2,g3,g4⟩:=hS
 obtain⟨hy, -,a2,c2,hv2,k1,k2,k3,k4⟩:=hX
 simp only[List.cons.injEq,and_true] at hv hv2
 subst hv
 subst hv2
 have hsy:∀d∈es++ys,d.sh=s:=fun d hd=>by
  rcases List.mem_append.1 hd with hd|hd
  ·exact hs d hd
  ·exact hy d hd
 by_cases hy0:ys=[]
 ·subst hy0
  refine⟨_,w,F,b1,IQ (P:=P) w T ty e ii hu hi a a2 es.length cap c2 g1,by rw[List.append_nil];exact hS0,Ks.refl _ _ _,(List.nodup_append.1 hn).1,fun b hb=> .inl (by simp[hb]),fun b hb=>hl b (by simp[hb]),ht,fun x hx=> .inl hx⟩
 -- the new elements
 obtain⟨b',off2,q,rfl,hE2,hf2,hq⟩:∃b off r,a2=some ⟨b,off,none⟩∧rpE w F ys b off r∧off+ys.length*s.w≤F b∧(∀x∈r,x∈b2)∧r.Nodup:=by
  rcases k4 with ⟨-,h, -⟩|⟨b,off,r,h1,h2,h3,h4⟩
  ·exact absurd h hy0
  ·refine⟨b,off,r,h1,h2,h3,?_⟩
   have hn2:=(List.nodup_append.1 hn).2.1
   rcases h4 with ⟨-, -,h4⟩|⟨-,h4, -⟩
   ·subst h4;exact⟨by simp,List.nodup_nil⟩
   ·subst h4;exact⟨fun x hx=>by simp[hx],(List.nodup_cons.1 hn2).2⟩
 obtain⟨news,hc2,hS2⟩:=rpE.toS ys off2 q hE2
 have hnl:=rpS.length ys news q hS2
 rw[DD.shs_eq,Sh.ws_map ys hy] at hnl
 have hn1:news.length=ys.length*ii.size:=by rw[hnl,his]
 have hnews:∀j u,news[j]? =some u→w.cell? ((⟨b',off2,none⟩:Addr).add j)=some u:=fun j u hu=>by rw[Addr.add_lit];exact hc2 j u hu
 have hone:=rpS.one ys news q hS2
 have hyp:0<ys.length:=List.length_pos_iff.2 hy0
 have hm':es.length+ys.length≤9223372036854775807:=by simpa[maxLen] using hm
 have hzsz:(z.mk zc).cells.size=s.w:=by rw[EC (hz w F)];simp[rp.length z zc [] (hz w F),hzs]
 have grown:∀(olds:List Value) (r:List Nat) (old:Nat),rpS w F es olds r→old<es.length+ys.length→(∀x∈r,x∈b1)→r.Nodup→
   ∃bs,rp (w.drew.alloc (.cells (olds.toArray++news.toArray++Builtin.zeroCells (z.mk zc).cells (grownCap w (es.length+ys.length) old e - (es.length+ys.length))) e)) (upd F w.heap.size ((es++ys).length*s.w)) (.sl true s (es++ys))
    [.slice (some ⟨w.heap.size,0,none⟩) (es.length+ys.length) (grownCap w (es.length+ys.length) old e)] bs∧bs.Nodup∧(∀b∈bs,b∈b1++b2∨w.heap.size≤b)∧(∀b∈bs,b<w.heap.size+1)∧∀x∈bs.head?,w.heap.size≤x:=by
  intro olds r old hO ho hr hrn
  have hge:=grownCap_ge w (es.length+ys.length) old e
  have hcm:grownCap w (es.length+ys.length) old e≤maxLen:=grownCap_le_maxLen w (es.length+ys.length) old e hm
  have hol:=rpS.length es olds r hO
  rw[DD.shs_eq,Sh.ws_map es hs] at hol
  have hrq:∀b∈r++q,b∈b1++b2:=fun b hb=>by
   rcases List.mem_append.1 hb with hb|hb
   ·simp[hr b hb]
   ·simp[hq.1 b hb]
  have:=QY (w:=w.drew) (F:=F) (s:=s) (es:=es++ys) (xs:=olds++news) (r:=r++q) (cap:=grownCap w (es.length+ys.length) old e) (e:=e)
   (arr:=olds.toArray++news.toArray++Builtin.zeroCells (z.mk zc).cells (grownCap w (es.length+ys.length) old e - (es.length+ys.length))) hsy h0 (rpS.keep _ _ _ (rpS.append es olds r ys news q hO hS2) ⟨fun _ _ _=>rfl,fun _=>Nat.le_refl _,fun _ _=>⟨rfl,rfl⟩⟩) (fun b hb=>hl b (hrq b hb)) ht
   (by rw [Array.toList_append, Array.toList_append]; exact List.take_left) (by simpa using hge) hcm (by
    simp only[Array.size_append,List.size_toArray,size_zeroCells,hzsz,hol,hnl, ←Nat.add_mul]
    exact Nat.mul_le_mul_right _ (by omega))
  rw[List.length_append] at this ⊢
  refine⟨_,this,?_,?_,?_,?_⟩
  ·refine List.nodup_cons.2 ⟨fun hb=> ?_,?_⟩
   ·have:=hl _ (hrq _ hb);simp at this
   ·refine List.nodup_append.2 ⟨hrn,hq.2,fun x hx y hy e=> ?_⟩
    subst e
    exact(List.nodup_append.1 hn).2.2 x (hr x hx) x (hq.1 x hy) rfl
  ·intro b hb
   rcases List.mem_cons.1 hb with rfl|hb
   ·exact .inr (Nat.le_refl _)
   ·exact .inl (hrq b hb)
  ·intro b hb
   rcases List.mem_cons.1 hb with rfl|hb
   ·simp
   ·have:=hl b (hrq b hb);omega
  ·intro x hx
   simp at hx;omega
 by_cases hroom:es.length+ys.length≤cap
 ·-- it fits
  rcases g4 with ⟨-,rfl,h⟩|⟨b,off,r,rfl,he,hf,h⟩
  ·have:=h trivial
   simp only[List.length_nil] at hroom
   omega
  ·rcases h with ⟨h, -⟩|⟨-,rfl,rfl,hF,cur,t0,hg,hcz⟩
   ·cases h
   ·obtain⟨olds,hco,hO⟩:=rpE.toS es 0 r he
    have hol:=rpS.length es olds r hO
    rw[DD.shs_eq,Sh.ws_map es hs] at hol
    have hsum:es.length*s.w+ys.length*s.w≤cap*s.w:=by rw[←Nat.add_mul];exact Nat.mul_le_mul_right _ hroom
    have hrun:=Hf (P:=P) w T ty e t0 ii hu hi b es.length cap cur hg ⟨b',off2,none⟩ ys.length c2 news hn1 hnews hone hroom (by rw[hn1,his];omega)
    rw[his] at hrun
    have hbn:b∉r:=(List.nodup_cons.1 (List.nodup_append.1 hn).1).1
    have hks:Ks w F (w.setRow b (cur.toList.take (es.length*s.w)++news++cur.toList.drop (es.length*s.w+news.length)).toArray) (upd F b ((es++ys).length*s.w)) (fun x=>x=b):=by
     refine M2 hg (by rw[hF,List.length_append,Nat.add_mul];omega) (fun o ho=> ?_)
     rw[hF] at ho
     have hlt:o<cur.size:=by omega
     simp only[List.getElem?_toArray,List.append_assoc]
     rw[List.getElem?_append_left (by simp;omega),List.getElem?_take_of_lt ho]
     simp
    have hrl:∀x∈r,x<w.heap.size:=fun x hx=>hl x (by simp[hx])
    have hql:∀x∈q,x<w.heap.size:=fun x hx=>hl x (by simp[hq.1 x hx])
    have hqb:∀x∈q,¬x=b:=fun x hx e=>(List.nodup_append.1 hn).2.2 b (by simp) x (hq.1 x hx) e.symm
    have hat:=setRow_heap w b cur (cur.toList.take (es.length*s.w)++news++cur.toList.drop (es.length*s.w+news.length)).toArray t0 (0,0) hg
    refine⟨_,_,upd F b ((es++ys).length*s.w),b::(r++q),hrun,?_,⟨hks.os,hks.tape,hks.output,hks.size,hks.cell,hks.mono,fun x hx hne=>hks.out x hx (fun e=>hne (by simp[e]))⟩,?_,?_,?_,?_,?_⟩
    ·simp only[rp]
     refine⟨hsy,h0,_,cap,by rw[List.length_append],by rw[List.length_append];exact hroom,g2,by simp,.inr ⟨b,0,r++q,rfl,?_,by rw[Aw];omega,.inr ⟨trivial,rfl,rfl,Aw _ _ _,_,t0,hat,?_⟩⟩⟩
     ·refine rpS.toE (es++ys) (olds++news) 0 (r++q) (rpS.append es olds r ys news q (rpS.keep es olds r hO (hks.kp hrl (fun x hx e=>hbn (e ▸ hx)))) (rpS.keep ys news q hS2 (hks.kp hql hqb))) ?_
      intro j u hu
      rw[cell_of_row _ _ _ _ t0 (0,0) hat,Nat.zero_add]
      simp only[List.getElem?_toArray]
      by_cases hj:j<olds.length
      ·rw[List.getElem?_append_left hj] at hu
       have:=hco j u hu
       rw[cell_of_row w _ _ _ t0 (0,0) hg,Nat.zero_add] at this
       rw[List.append_assoc,List.getElem?_append_left (by simp;omega),List.getElem?_take_of_lt (by omega)]
       simpa using this
      ·have hj2:=(List.getElem?_eq_some_iff.1 hu).1
       rw[List.length_append] at hj2
       rw[List.getElem?_append_right (by omega)] at hu
       have htl:(cur.toList.take (es.length*s.w)).length=es.length*s.w:=by simp;omega
       rw[List.append_assoc,List.getElem?_append_right (by omega),List.getElem?_append_left (by omega),htl, ←hol]
       exact hu
     ·simp only[List.size_toArray,List.length_append,List.length_take,List.length_drop,Array.length_toList]
      omega
    ·refine List.nodup_cons.2 ⟨fun hb=> ?_,?_⟩
     ·rcases List.mem_append.1 hb with hb|hb
      ·exact hbn hb
      ·exact hqb b hb rfl
     ·have hn3:=(List.nodup_cons.1 (List.nodup_append.1 hn).1).2
      refine List.nodup_append.2 ⟨hn3,hq.2,fun x hx y hy e=> ?_⟩
      subst e
      exact(List.nodup_append.1 hn).2.2 x (by simp[hx]) x (hq.1 x hy) rfl
    ·intro x hx
     left
     rcases List.mem_cons.1 hx with rfl|hx
     ·simp
     ·rcases List.mem_append.1 hx with hx|hx
      ·simp[hx]
      ·simp[hq.1 x hx]
    ·intro x hx
     rw[size_setRow]
     rcases List.mem_cons.1 hx with rfl|hx
     ·exact hl _ (by simp)
     ·rcases List.mem_append.1 hx with hx|hx
      ·exact hrl x hx
      ·exact hql x hx
    ·intro x hx
     rw[size_setRow] at hx
     have:x≠b:=fun e=>by have:=hl b (by simp);omega
     rw[BE _ _ this]
     exact ht x hx
    ·exact fun x hx=> .inl hx
 ·-- it grows
  have hfits:∀old,old<es.length+ys.length→Builtin.nextslicecap (es.length+ys.length) old*ii.bytes≤281474976710656:=fun old h=>growslice_fits h hby
  cases a with
  |none=>
   have hc:=g3 rfl
   have he0:es=[]:=List.length_eq_zero_iff.1 (by omega)
   subst he0
   subst hc
   simp only[List.length_nil,Nat.zero_add] at hm' hby grown ⊢
   have hrun:=run_append_nil (P:=P) w T ty e ii (z.mk zc) hu hi hiz ⟨b',off2,none⟩ ys.length c2 news hn1 hnews hyp (by omega) (by omega)
   obtain⟨bs,m1,m2,m3,m4,m5⟩:=grown [] [] 0 (by simp[rpS]) hyp (by simp) List.nodup_nil
   refine⟨_,_,_,bs,hrun,by simpa using m1,(Ks.drew (Fi (w:=w.drew) _ ht)),m2,m3,fun b hb=>by simpa using m4 b hb,Gd (w:=w.drew) ht,fun x hx=> .inr (m5 x hx)⟩
  |some ad=>
   rcases g4 with ⟨rfl,rfl, -⟩|⟨b,off,r,ha,he,hf,h⟩
   ·have hrun:=run_append_grow (P:=P) w T ty e ii (z.mk zc) hu hi hiz ad 0 cap [] (by simp) (by simp) ⟨b',off2,none⟩ ys.length c2 news hn1 hnews (by simp at hroom;omega) (by simp at hm';omega) (hfits cap (by omega))
    obtain⟨bs,m1,m2,m3,m4,m5⟩:=grown [] [] cap (by simp[rpS]) (by omega) (by simp) List.nodup_nil
    refine⟨_,_,_,bs,hrun,m1,(Ks.drew (Fi (w:=w.drew) _ ht)),m2,m3,fun b hb=>by simpa using m4 b hb,Gd (w:=w.drew) ht,fun x hx=> .inr (m5 x hx)⟩
   ·simp only[Option.some.injEq] at ha
    subst ha
    obtain⟨olds,hco,hO⟩:=rpE.toS es off r he
    have hol:=rpS.length es olds r hO
    rw[DD.shs_eq,Sh.ws_map es hs] at hol
    have hr:(∀x∈r,x∈b1)∧r.Nodup:=by
     have hn1:=(List.nodup_append.1 hn).1
     rcases h with ⟨-, -,h⟩|⟨-,h, -⟩
     ·subst h;exact⟨by simp,List.nodup_nil⟩
     ·subst h;exact⟨fun x hx=>by simp[hx],(List.nodup_cons.1 hn1).2⟩
    have hrun:=run_append_grow (P:=P) w T ty e ii (z.mk zc) hu hi hiz ⟨b,off,none⟩ es.length cap olds (by rw[hol,his]) (fun j u hu=>by rw[Addr.add_lit];exact hco j u hu) ⟨b',off2,none⟩ ys.length c2 news hn1 hnews (by omega) (by omega) (hfits cap (by omega))
    obtain⟨bs,m1,m2,m3,m4,m5⟩:=grown olds r cap hO (by omega) hr.1 hr.2
    refine⟨_,_,_,bs,hrun,m1,(Ks.drew (Fi (w:=w.drew) _ ht)),m2,m3,fun b hb=>by simpa using m4 b hb,Gd (w:=w.drew) ht,fun x hx=> .inr (m5 x hx)⟩
def J6 (Θ:Ty) (k:Nat) (x:Nat×Sh):Ty:=fun lv q=>if lv=0∧q=k then some x else Θ lv q
theorem Jf {w:World} {F:Nat→Nat} {g:Nat} {cur arr:Array Value} {t:TypeId} (hg:w.heap[g]? =some (.cells cur t (0,0))) (hn:F g=0):Ks w F (w.setRow g arr) F (fun b=>b=g):=by
 have h:=M2 (F:=F) (n:=0) (arr:=arr) hg (by omega) (fun o ho=>by omega)
 have e:upd F g 0=F:=by
  funext b
  by_cases hb:b=g
  ·subst hb;rw[Aw,hn]
  ·rw[BE _ _ hb]
 rwa [e] at h
theorem Ve {w:World} {F:Nat→Nat} {o:Obj} (E:Nat→Prop) (ht:∀b,w.heap.size≤b→F b=0):Ks w F (w.alloc o) F E:=by
 have h:=Fi (F:=F) (o:=o) (n:=0) E ht
 have e:upd F w.heap.size 0=F:=by
  funext b
  by_cases hb:b=w.heap.size
  ·subst hb;rw[Aw,ht _ (Nat.le_refl _)]
  ·rw[BE _ _ hb]
 rwa [e] at h
theorem Rel.alloc {w:World} {F:Nat→Nat} {Θ:Ty} {own:Who→List Nat} {S:St} {a:Act} (h:Rel w F Θ own S a) (k:Nat) (hk:k<S.n) (hkn:hpg S.hp 0 k=none) (hne:0<S.hp.length) (ts:List Nat)
  (cn:AV) (cs:List Value) (bs:List Nat) (s:Sh) (T:TypeId) (hcs:cn.csh=some s) (hrc:rc w F Θ cn cs bs) (hn:bs.Nodup) (hb:∀b∈bs,∃t∈ts,b∈own (.t t)) (r:AV) (v:Value)
  (hr:rv (w.alloc (.cells cs.toArray T)) F (J6 Θ k (w.heap.size,s)) r v []):
  ∃own',Rel (w.alloc (.cells cs.toArray T)) F (J6 Θ k (w.heap.size,s)) own' ⟨S.n,upd (BD S.tm ts) k r,hps S.hp 0 k (some cn)⟩ (a.put (some k) v)∧Stp w F Θ own (w.alloc (.cells cs.toArray T)) F (J6 Θ k (w.heap.size,s)) own':=by
 have hks:Ks w F (w.alloc (.cells cs.toArray T)) F (fun _=>False):=Ve _ h.top
 have kp:∀bs:List Nat,(∀b∈bs,b<w.heap.size)→Kp w F (w.alloc (.cells cs.toArray T)) F bs:=fun bs hl=>hks.kp hl (by simp)
 have hT:∀lv q (x:Nat×Sh),Θ lv q=some x→J6 Θ k (w.heap.size,s) lv q=some x:=fun lv q x hx=>by
  unfold J6
  rw[if_neg];exact hx
  rintro ⟨rfl,rfl⟩
  rw[(h.hn 0 q hkn).1] at hx;cases hx
 have hbl:∀b∈bs,b<w.heap.size:=fun b hq=>by obtain⟨t,_,q⟩:=hb b hq;exact h.lt _ b q
 let own':Who→List Nat:=fun x=>if x=.h 0 k then bs else if x=.l 0 k then [w.heap.size] else if x=.t k then [] else if (∃t∈ts,x=.t t) then [] else own x
 have o1:own' (.h 0 k)=bs:=if_pos rfl
 have o2:own' (.l 0 k)=[w.heap.size]:=by show(if _ then _ else if _ then _ else _)=_;rw[if_neg (by simp),if_pos rfl]
 have o3:own' (.t k)=[]:=by show(if _ then _ else if _ then _ else if _ then _ else _)=_;rw[if_neg (by simp),if_neg (by simp),if_pos rfl]
 have o4:∀t,t≠k→t∈ts→own' (.t t)=[]:=fun t ht hm=>by
  show(if _ then _ else if _ then _ else if _ then _ else if _ then _ else _)=_
  rw[if_neg (by simp),if_neg (by simp),if_neg (by simpa using ht),if_pos ⟨t,hm,rfl⟩]
 have o5:∀t,t≠k→t∉ts→own' (.t t)=own (.t t):=fun t ht hm=>by
  show(if _ then _ else if _ then _ else if _ then _ else if _ then _ else _)=_
  rw[if_neg (by simp),if_neg (by simp),if_neg (by simpa using ht),if_neg (by rintro ⟨q,hq,e⟩;cases e;exact hm hq)]
 have o6:∀lv q,¬(lv=0∧q=k)→own' (.h lv q)=own (.h lv q)∧own' (.l lv q)=own (.l lv q):=fun lv q hq=>by
  refine⟨?_,?_⟩<;>
  ·show(if _ then _ else if _ then _ else if _ then _ else if _ then _ else _)=_
   rw[if_neg (by first|(simp;done)|simpa using hq),if_neg (by first|(simp;done)|simpa using hq),if_neg (by simp),if_neg (by rintro ⟨q,hq,e⟩;cases e)]
 have o7:∀x b,b∈own' x→(b∈bs∧x=.h 0 k)∨(b=w.heap.size∧x=.l 0 k)∨(b∈own x∧∀t∈ts,x≠ .t t):=fun x b hx=>by
  have hx':b∈(if x=.h 0 k then bs else if x=.l 0 k then [w.heap.size] else if x=.t k then [] else if (∃t∈ts,x=.t t) then [] else own x):=hx
  split at hx'
  ·exact .inl ⟨hx', ‹_›⟩
  ·split at hx'
   ·exact .inr (.inl ⟨by simpa using hx', ‹_›⟩)
   ·split at hx'
    ·simp at hx'
    ·split at hx'
     ·simp at hx'
     ·rename_i hq;exact .inr (.inr ⟨hx',fun t ht e=>hq ⟨t,ht,e⟩⟩)
 have hga:=CG S.hp 0 k (some cn)
 refine⟨own',⟨?_,?_,?_,?_,?_,?_,?_,?_,?_,h.gl.ks hks⟩,?_,?_,?_⟩
 ·rw[Gp,h.n]
 ·rw[FB,h.df]
 ·intro t
  rw[EE a k t v (by rw[h.n];exact hk)]
  show rv _ _ _ (upd (BD S.tm ts) k r t) _ _
  by_cases ht:t=k
  ·subst ht
   rw[Aw,if_pos rfl,o3];exact hr
  ·rw[BE _ _ ht,if_neg ht,DQ]
   by_cases hm:t∈ts
   ·rw[if_pos hm,o4 t ht hm]
    exact rv.keep hT _ _ _ (rv.view _ _ _ (h.tm t)) (kp _ (by simp))
   ·rw[if_neg hm,o5 t ht hm]
    exact rv.keep hT _ _ _ (h.tm t) (kp _ (h.lt _))
 ·intro lv q hq
  rw[hga] at hq
  split at hq
  ·cases hq
  ·rename_i hne2
   have hne3:¬(lv=0∧q=k):=fun ⟨e1,e2⟩=>hne2 ⟨e1,e2,hne⟩
   have:=h.hn lv q hq
   rw[(o6 lv q hne3).1,(o6 lv q hne3).2]
   refine⟨?_,this.2⟩
   unfold J6;rw[if_neg hne3];exact this.1
 ·intro lv q c hq
  rw[hga] at hq
  split at hq
  ·rename_i he
   obtain⟨rfl,rfl, -⟩:=he
   cases hq
   refine⟨w.heap.size,s,cs.toArray,T,?_,o2,h.top _ (Nat.le_refl _),hcs,KI rfl,?_⟩
   ·unfold J6;rw[if_pos ⟨rfl,rfl⟩]
   ·rw[o1]
    exact rc.keep hT cn cs bs hrc (kp bs hbl)
  ·rename_i hne2
   have hne3:¬(lv=0∧q=k):=fun ⟨e1,e2⟩=>hne2 ⟨e1,e2,hne⟩
   obtain⟨b,s',cur,t,h1,h2,h3,h4,h5,h6⟩:=h.hs lv q c hq
   rw[(o6 lv q hne3).1,(o6 lv q hne3).2]
   refine⟨b,s',cur,t,hT _ _ _ h1,h2,h3,h4,?_,rc.keep hT c _ _ h6 (kp _ (h.lt _))⟩
   exact((kp [b] (by intro x hx;simp at hx;subst hx;exact h.lt (.l lv q) _ (by rw[h2];simp))).own b (by simp)).1.trans h5
 ·intro x
  show(if _ then _ else if _ then _ else if _ then _ else if _ then _ else _:List Nat).Nodup
  split
  ·exact hn
  ·split
   ·simp
   ·split
    ·simp
    ·split
     ·simp
     ·exact h.nd x
 ·intro x y hxy b hbx hby
  have hlt:∀x,b∈own x→b<w.heap.size:=fun x q=>h.lt x b q
  rcases o7 x b hbx with ⟨h1,rfl⟩|⟨h1,rfl⟩|⟨h1,h2⟩<;>rcases o7 y b hby with ⟨g1,rfl⟩|⟨g1,rfl⟩|⟨g1,g2⟩
  ·exact hxy rfl
  ·have:=hbl b h1;omega
  ·obtain⟨t,ht,q⟩:=hb b h1;exact h.dj y (.t t) (g2 t ht) b g1 q
  ·have:=hbl b g1;omega
  ·exact hxy rfl
  ·have:=hlt _ g1;omega
  ·obtain⟨t,ht,q⟩:=hb b g1;exact h.dj x (.t t) (h2 t ht) b h1 q
  ·have:=hlt _ h1;omega
  ·exact h.dj x y hxy b h1 g1
 ·intro x b hbx
  have hs1:(w.alloc (.cells cs.toArray T)).heap.size=w.heap.size+1:=by simp
  rw[hs1]
  rcases o7 x b hbx with ⟨h1, -⟩|⟨h1, -⟩|⟨h1, -⟩
  ·have:=hbl b h1;omega
  ·omega
  ·have:=h.lt x b h1;omega
 ·intro b hb2
  have hb3:w.heap.size+1≤b:=by simpa using hb2
  exact h.top b (by omega)
 ·exact⟨hks.os,hks.tape,hks.output,hks.size,hks.cell,hks.mono,fun b hb _=>hks.out b hb (by simp)⟩
 ·intro x b hbx
  rcases o7 x b hbx with ⟨h1, -⟩|⟨h1, -⟩|⟨h1, -⟩
  ·obtain⟨t,_,q⟩:=hb b h1;exact .inl ⟨_,q⟩
  ·exact .inr (by omega)
  ·exact .inl ⟨_,h1⟩
 ·intro lv q
  unfold J6;rw[if_neg (by simp)]
theorem Rel.set {w w':World} {F:Nat→Nat} {Θ:Ty} {own:Who→List Nat} {S:St} {a:Act} (h:Rel w F Θ own S a) (d:Option Nat) (hd:∀k,d=some k→k<S.n) (lv k:Nat) (cn cn':AV) (hc:hpg S.hp lv k=some cn) (ts:List Nat) (b:Nat) (s:Sh) (hΘ:Θ lv k=some (b,s))
  (cs':List Value) (T:TypeId) (bs bd:List Nat) (hcs:cn'.csh=some s) (hrc:rc w' F Θ cn' cs' bs) (hat:w'.heap[b]? =some (.cells cs'.toArray T (0,0))) (hks:Ks w F w' F (fun x=>x=b)) (hsz:w'.heap.size=w.heap.size)
  (r:AV) (v:Value) (hr:rv w' F Θ r v bd) (hn:(bs++bd).Nodup) (hb:∀x∈bs++bd,x∈own (.h lv k)∨∃t∈ts,x∈own (.t t)):
  ∃own',Rel w' F Θ own' ⟨S.n,B1 (BD S.tm ts) d r,hps S.hp lv k (some cn')⟩ (a.put d v)∧Stp w F Θ own w' F Θ own':=by
 obtain⟨b0,s0,cur,t0,z1,z2,z3,z4,z5,z6⟩:=h.hs lv k cn hc
 rw[hΘ] at z1
 cases z1
 have hT:∀lv q (x:Nat×Sh),Θ lv q=some x→Θ lv q=some x:=fun _ _ _ q=>q
 have hbo:∀x,x≠ .l lv k→b∉own x:=fun x hx hb=>h.dj (.l lv k) x (Ne.symm hx) b (by rw[z2];simp) hb
 have kp:∀x,x≠ .l lv k→Kp w F w' F (own x):=fun x hx=>hks.kp (h.lt x) (fun q hq e=>hbo x hx (e ▸ hq))
 have kp0:Kp w F w' F []:=hks.kp (by simp) (by simp)
 let own':Who→List Nat:=fun x=>if x=.h lv k then bs else if (∃k,d=some k∧x=.t k) then bd else if (∃t∈ts,x=.t t) then [] else own x
 have o1:own' (.h lv k)=bs:=if_pos rfl
 have o2:∀t,d=some t→own' (.t t)=bd:=fun t ht=>by
  show(if _ then _ else if _ then _ else _)=_
  rw[if_neg (by simp),if_pos ⟨t,ht,rfl⟩]
 have o3:∀t,d≠some t→t∈ts→own' (.t t)=[]:=fun t ht hm=>by
  show(if _ then _ else if _ then _ else if _ then _ else _)=_
  rw[if_neg (by simp),if_neg (by rintro ⟨q,hq,e⟩;cases e;exact ht hq),if_pos ⟨t,hm,rfl⟩]
 have o4:∀t,d≠some t→t∉ts→own' (.t t)=own (.t t):=fun t ht hm=>by
  show(if _ then _ else if _ then _ else if _ then _ else _)=_
  rw[if_neg (by simp),if_neg (by rintro ⟨q,hq,e⟩;cases e;exact ht hq),if_neg (by rintro ⟨q,hq,e⟩;cases e;exact hm hq)]
 have o5:∀l q,¬(l=lv∧q=k)→own' (.h l q)=own (.h l q):=fun l q hne=>by
  show(if _ then _ else if _ then _ else if _ then _ else _)=_
  rw[if_neg (by simpa using hne),if_neg (by rintro ⟨q,hq,e⟩;cases e),if_neg (by rintro ⟨q,hq,e⟩;cases e)]
 have o6:∀l q,own' (.l l q)=own (.l l q):=fun l q=>by
  show(if _ then _ else if _ then _ else if _ then _ else _)=_
  rw[if_neg (by simp),if_neg (by rintro ⟨q,hq,e⟩;cases e),if_neg (by rintro ⟨q,hq,e⟩;cases e)]
 have o7:∀x y,y∈own' x→(y∈bs∧x=.h lv k)∨(y∈bd∧∃k,d=some k∧x=.t k)∨(y∈own x∧x≠ .h lv k∧∀t∈ts,x≠ .t t):=fun x y hx=>by
  have hx':y∈(if x=.h lv k then bs else if (∃k,d=some k∧x=.t k) then bd else if (∃t∈ts,x=.t t) then [] else own x):=hx
  split at hx'
  ·exact .inl ⟨hx', ‹_›⟩
  ·split at hx'
   ·exact .inr (.inl ⟨hx', ‹_›⟩)
   ·split at hx'
    ·simp at hx'
    ·rename_i h1 _ hq;exact .inr (.inr ⟨hx',h1,fun t ht e=>hq ⟨t,ht,e⟩⟩)
 have hnb:=List.nodup_append.1 hn
 have src:∀y,y∈bs++bd→∀x,y∈own x→x≠ .h lv k→(∀t∈ts,x≠ .t t)→False:=fun y hy x hx h1 h2=>by
  rcases hb y hy with q|⟨t,ht,q⟩
  ·exact h.dj x (.h lv k) h1 y hx q
  ·exact h.dj x (.t t) (h2 t ht) y hx q
 have hga:=CG S.hp lv k (some cn')
 have hlv:=M9 S.hp lv k cn hc
 refine⟨own',⟨?_,?_,?_,?_,?_,?_,?_,?_,?_,h.gl.ks hks⟩,?_,?_,fun _ _=>rfl⟩
 ·rw[Gp,h.n]
 ·rw[FB,h.df]
 ·intro t
  show rv w' F Θ (B1 (BD S.tm ts) d r t) _ _
  by_cases hdt:d=some t
  ·subst hdt
   rw[EE a t t v (by rw[h.n];exact hd t rfl),if_pos rfl,o2 t rfl]
   simpa only[B1,Aw] using hr
  ·have e1:B1 (BD S.tm ts) d r t=BD S.tm ts t:=by
    cases d with
    |none=>rfl
    |some q=>exact BE _ _ (fun e=>hdt (by rw[e]))
   have e2:(a.put d v).tmps.getD t undef=a.tmps.getD t undef:=by
    cases d with
    |none=>rfl
    |some q=>rw[EE a q t v (by rw[h.n];exact hd q rfl),if_neg (fun e=>hdt (by rw[e]))]
   rw[e1,e2,DQ]
   by_cases hm:t∈ts
   ·rw[if_pos hm,o3 t hdt hm]
    exact rv.keep hT _ _ _ (rv.view _ _ _ (h.tm t)) kp0
   ·rw[if_neg hm,o4 t hdt hm]
    exact rv.keep hT _ _ _ (h.tm t) (kp _ (by simp))
 ·intro l q hq
  rw[hga] at hq
  split at hq
  ·cases hq
  ·rename_i hne2
   have hne3:¬(l=lv∧q=k):=fun ⟨e1,e2⟩=>hne2 ⟨e1,e2,hlv⟩
   rw[o5 l q hne3,o6]
   exact h.hn l q hq
 ·intro l q c hq
  rw[hga] at hq
  split at hq
  ·rename_i he
   obtain⟨rfl,rfl, -⟩:=he
   cases hq
   exact⟨b,s,cs'.toArray,T,hΘ,(o6 _ _).trans z2,z3,hcs,hat,by rw[o1];exact hrc⟩
  ·rename_i hne2
   have hne3:¬(l=lv∧q=k):=fun ⟨e1,e2⟩=>hne2 ⟨e1,e2,hlv⟩
   obtain⟨b',s',cur',t',h1,h2,h3,h4,h5,h6⟩:=h.hs l q c hq
   rw[o5 l q hne3,o6]
   have hlk:Who.l l q≠ .l lv k:=fun e=>by cases e;exact hne3 ⟨rfl,rfl⟩
   refine⟨b',s',cur',t',h1,h2,h3,h4,?_,rc.keep hT c _ _ h6 (kp _ (by simp))⟩
   exact((kp _ hlk).own b' (by rw[h2];simp)).1.trans h5
 ·intro x
  show(if _ then _ else if _ then _ else if _ then _ else _:List Nat).Nodup
  split
  ·exact hnb.1
  ·split
   ·exact hnb.2.1
   ·split
    ·simp
    ·exact h.nd x
 ·intro x y hxy z hzx hzy
  rcases o7 x z hzx with ⟨h1,rfl⟩|⟨h1,p,hp,rfl⟩|⟨h1,h2,h3⟩<;>rcases o7 y z hzy with ⟨g1,rfl⟩|⟨g1,p2,hp2,rfl⟩|⟨g1,g2,g3⟩
  ·exact hxy rfl
  ·exact hnb.2.2 z h1 z g1 rfl
  ·exact src z (by simp[h1]) y g1 g2 g3
  ·exact hnb.2.2 z g1 z h1 rfl
  ·rw[hp] at hp2;cases hp2;exact hxy rfl
  ·exact src z (by simp[h1]) y g1 g2 g3
  ·exact src z (by simp[g1]) x h1 h2 h3
  ·exact src z (by simp[g1]) x h1 h2 h3
  ·exact h.dj x y hxy z h1 g1
 ·intro x z hz
  rw[hsz]
  have all:∀z∈bs++bd,z<w.heap.size:=fun z hz=>by
   rcases hb z hz with q|⟨t,ht,q⟩
   ·exact h.lt _ z q
   ·exact h.lt _ z q
  rcases o7 x z hz with ⟨h1, -⟩|⟨h1, -⟩|⟨h1, -⟩
  ·exact all z (by simp[h1])
  ·exact all z (by simp[h1])
  ·exact h.lt x z h1
 ·intro x hx
  exact h.top x (by rw[hsz] at hx;exact hx)
 ·exact⟨hks.os,hks.tape,hks.output,hks.size,hks.cell,hks.mono,fun x hx hne=>hks.out x hx (fun e=>hne ⟨.l lv k,by rw[z2,e];simp⟩)⟩
 ·intro x z hz
  left
  rcases o7 x z hz with ⟨h1, -⟩|⟨h1, -⟩|⟨h1, -⟩
  ·rcases hb z (by simp[h1]) with q|⟨t,ht,q⟩
   ·exact⟨_,q⟩
   ·exact⟨_,q⟩
  ·rcases hb z (by simp[h1]) with q|⟨t,ht,q⟩
   ·exact⟨_,q⟩
   ·exact⟨_,q⟩
  ·exact⟨_,h1⟩
