/- Part 03. No condition. -/
import Derived.Test.YtgihkamifpmfdaaGreatDoorM02
namespace Go.Proofs.YtgihkamifpmfdaaGreatDoor
open Go.RowKit
set_option linter.unusedVariables false
set_option linter.unusedSimpArgs false
abbrev HP:=List (Nat→Option AV)
def upd {α:Type} (f:Nat→α) (k:Nat) (v:α):Nat→α:=fun t=>bif t==k then v else f t
theorem Aw {α:Type} (f:Nat→α) (k:Nat) (v:α):upd f k v k=v:=by simp[upd]
theorem BE {α:Type} (f:Nat→α) {k t:Nat} (v:α) (h:t≠k):upd f k v t=f t:=by simp[upd,beq_eq_false_iff_ne.2 h]
structure St where
 n:Nat
 tm:Nat→AV
 hp:HP
def hpg:HP→Nat→Nat→Option AV
 |[],_,_=>none
 |f::_,0,k=>f k
 |_::h,lv+1,k=>hpg h lv k
def hps:HP→Nat→Nat→Option AV→HP
 |[],_,_,_=>[]
 |f::h,0,k,v=>upd f k v::h
 |f::h,lv+1,k,v=>f::hps h lv k v
theorem CG:∀(h:HP) (lv k:Nat) (v:Option AV) (lv' k':Nat),hpg (hps h lv k v) lv' k'=if lv'=lv∧k'=k∧lv<h.length then v else hpg h lv' k'
 |[],lv,k,v,lv',k'=>by simp[hps,hpg]
 |f::h,0,k,v,0,k'=>by
  by_cases hk:k'=k
  ·subst hk;simp[hps,hpg,upd]
  ·simp[hps,hpg,upd,hk,beq_eq_false_iff_ne.2 hk]
 |f::h,0,k,v,lv'+1,k'=>by simp[hps,hpg]
 |f::h,lv+1,k,v,0,k'=>by simp[hps,hpg]
 |f::h,lv+1,k,v,lv'+1,k'=>by
  simp only[hps,hpg,CG h lv k v lv' k',List.length_cons,Nat.add_lt_add_iff_right,Nat.add_right_cancel_iff]
theorem M9:∀(h:HP) (lv k:Nat) (v:AV),hpg h lv k=some v→lv<h.length
 |[],_,_,_,e=>by simp[hpg] at e
 |_::_,0,_,_,_=>by simp
 |_::h,lv+1,k,v,e=>by
  have:=M9 h lv k v e
  simp only[List.length_cons];omega
def AV.csh:AV→Option Sh
 | .d x=>some x.sh
 | .un=>none
 | .tp _=>none
 | .pv _=>none
 | .mt _=>none
 | .mn _ _=>none
 |_=>some .one
def rc (w:World) (F:Nat→Nat) (Θ:Ty):AV→List Value→List Nat→Prop
 | .d x,cs,bs=>rp w F x cs bs
 | .un,_,_=>False
 | .tp _,_,_=>False
 |c,cs,bs=>∃v,cs=[v]∧v.oneCell'=true∧rv w F Θ c v bs
theorem rc.keep {w w':World} {F F':Nat→Nat} {Θ Θ':Ty} (hT:∀lv k x,Θ lv k=some x→Θ' lv k=some x) (c:AV) (cs:List Value) (bs:List Nat) (h:rc w F Θ c cs bs) (k:Kp w F w' F' bs):rc w' F' Θ' c cs bs:=by
 cases c<;>simp only[rc] at h ⊢
 case d x=>exact rp.keep _ _ _ h k
 all_goals
  obtain⟨v,h1,h2,h3⟩:=h
  exact⟨v,h1,h2,rv.keep hT _ _ _ h3 k⟩
inductive Who where
 |t (k:Nat)
 |h (lv k:Nat)
 |l (lv k:Nat)
 deriving DecidableEq
def Gl (w:World) (F:Nat→Nat):Prop:=∀p∈glb,p.2.1<F p.1∧w.cell? ⟨p.1,p.2.1,none⟩=p.2.2
structure Rel (w:World) (F:Nat→Nat) (Θ:Ty) (own:Who→List Nat) (S:St) (a:Act):Prop where
 n:a.tmps.size=S.n
 df:a.defers=[]
 tm:∀t,rv w F Θ (S.tm t) (a.tmps.getD t undef) (own (.t t))
 hn:∀lv k,hpg S.hp lv k=none→Θ lv k=none∧own (.h lv k)=[]∧own (.l lv k)=[]
 hs:∀lv k c,hpg S.hp lv k=some c→∃b s cur t,Θ lv k=some (b,s)∧own (.l lv k)=[b]∧F b=0∧c.csh=some s∧w.heap[b]? =some (.cells cur t (0,0))∧rc w F Θ c cur.toList (own (.h lv k))
 nd:∀x,(own x).Nodup
 dj:∀x y,x≠y→∀b∈own x,b∉own y
 lt:∀x,∀b∈own x,b<w.heap.size
 top:∀b,w.heap.size≤b→F b=0
 gl:Gl w F
structure Ks (w:World) (F:Nat→Nat) (w':World) (F':Nat→Nat) (E:Nat→Prop):Prop where
 os:w'.os=w.os
 tape:w'.tape=w.tape
 output:w'.output=w.output
 size:w.heap.size≤w'.heap.size
 cell:∀b o,o<F b→w'.cell? ⟨b,o,none⟩=w.cell? ⟨b,o,none⟩
 mono:∀b,F b≤F' b
 out:∀b,b<w.heap.size→¬E b→w'.heap[b]? =w.heap[b]? ∧F' b=F b
structure Stp (w:World) (F:Nat→Nat) (Θ:Ty) (own:Who→List Nat) (w':World) (F':Nat→Nat) (Θ':Ty) (own':Who→List Nat):Prop where
 ks:Ks w F w' F' (fun b=>∃x,b∈own x)
 fr:∀x b,b∈own' x→(∃y,b∈own y)∨w.heap.size≤b
 ty:∀lv k,Θ' (lv+1) k=Θ (lv+1) k
theorem Gl.ks {w w':World} {F F':Nat→Nat} {E:Nat→Prop} (h:Gl w F) (k:Ks w F w' F' E):Gl w' F':=fun p hp=>⟨Nat.lt_of_lt_of_le (h p hp).1 (k.mono _),(k.cell _ _ (h p hp).1).trans (h p hp).2⟩
theorem Ks.refl (w:World) (F:Nat→Nat) (E:Nat→Prop):Ks w F w F E:=⟨rfl,rfl,rfl,Nat.le_refl _,fun _ _ _=>rfl,fun _=>Nat.le_refl _,fun _ _ _=>⟨rfl,rfl⟩⟩
theorem Ks.trans {w0 w1 w2:World} {F0 F1 F2:Nat→Nat} {E E1:Nat→Prop} (h:Ks w0 F0 w1 F1 E) (k:Ks w1 F1 w2 F2 E1) (hE:∀b,E1 b→E b∨w0.heap.size≤b):Ks w0 F0 w2 F2 E where
 os:=k.os.trans h.os
 tape:=k.tape.trans h.tape
 output:=k.output.trans h.output
 size:=Nat.le_trans h.size k.size
 cell:=fun b o ho=>(k.cell b o (Nat.lt_of_lt_of_le ho (h.mono b))).trans (h.cell b o ho)
 mono:=fun b=>Nat.le_trans (h.mono b) (k.mono b)
 out:=fun b hb hn=>by
  have h1:=h.out b hb hn
  have h2:=k.out b (Nat.lt_of_lt_of_le hb h.size) (fun q=>by rcases hE b q with q|q;exact hn q;omega)
  exact⟨h2.1.trans h1.1,h2.2.trans h1.2⟩
theorem Stp.refl (w:World) (F:Nat→Nat) (Θ:Ty) (own:Who→List Nat):Stp w F Θ own w F Θ own:=⟨Ks.refl _ _ _,fun x _ hb=> .inl ⟨x,hb⟩,fun _ _=>rfl⟩
theorem Stp.trans {w0 w1 w2:World} {F0 F1 F2:Nat→Nat} {T0 T1 T2:Ty} {o0 o1 o2:Who→List Nat} (h:Stp w0 F0 T0 o0 w1 F1 T1 o1) (k:Stp w1 F1 T1 o1 w2 F2 T2 o2):Stp w0 F0 T0 o0 w2 F2 T2 o2 where
 ks:=h.ks.trans k.ks (fun b ⟨x,hx⟩=>h.fr x b hx)
 fr:=fun x b hb=>by
  rcases k.fr x b hb with ⟨y,hy⟩|hy
  ·exact h.fr y b hy
  ·exact .inr (Nat.le_trans h.ks.size hy)
 ty:=fun lv q=>(k.ty lv q).trans (h.ty lv q)
def BD (tm:Nat→AV):List Nat→Nat→AV
 |[]=>tm
 |t::ts=>BD (upd tm t (tm t).vw) ts
mutual
theorem AV.vw_vw:∀a:AV,a.vw.vw=a.vw
 | .un=>rfl
 | .d x=>by simp only[AV.vw,DD.vw_vw]
 | .pt _ _ _=>rfl
 | .el _=>rfl
 | .rw _ _ _=>rfl
 | .tp l=>by simp only[AV.vw,AV.vws_vws l]
 | .fn _ c=>by simp only[AV.vw,AV.vws_vws c]
 | .fr l=>by simp only[AV.vw,AV.vws_vws l]
 | .ep a=>by simp only[AV.vw,AV.vw_vw a]
 | .ms _ _=>rfl
 | .mb _ _ _=>rfl
 | .mp _ _ _ _=>rfl
 | .pv _=>rfl
 | .mt _=>rfl
 | .mn _ _=>rfl
theorem AV.vws_vws:∀l:List AV,AV.vws (AV.vws l)=AV.vws l
 |[]=>rfl
 |a::l=>by simp only[AV.vws,AV.vw_vw a,AV.vws_vws l]
end
theorem DQ:∀(ts:List Nat) (tm:Nat→AV) (t:Nat),BD tm ts t=if t∈ts then (tm t).vw else tm t
 |[],tm,t=>by simp[BD]
 |x::ts,tm,t=>by
  rw[BD,DQ ts]
  by_cases hx:t=x
  ·subst hx
   simp only[Aw,AV.vw_vw,List.mem_cons,true_or,if_true]
   split<;>rfl
  ·simp only[BE _ _ hx,List.mem_cons,hx,false_or]
def B1 (tm:Nat→AV) (d:Option Nat) (r:AV):Nat→AV:=match d with
 |some k=>upd tm k r
 |none=>tm
theorem Gp (a:Act) (d:Option Nat) (v:Value):(a.put d v).tmps.size=a.tmps.size:=by cases d<;>simp[Act.put]
theorem FB (a:Act) (d:Option Nat) (v:Value):(a.put d v).defers=a.defers:=by cases d<;>rfl
theorem EE (a:Act) (k t:Nat) (v:Value) (hk:k<a.tmps.size):(a.put (some k) v).tmps.getD t undef=if t=k then v else a.tmps.getD t undef:=by
 simp only[Act.put,Array.getD_eq_getD_getElem?,Array.getElem?_setIfInBounds]
 by_cases h:t=k
 ·subst h;simp[hk]
 ·simp[h,Ne.symm h]
theorem Rel.fin {w w':World} {F F':Nat→Nat} {Θ:Ty} {own:Who→List Nat} {S:St} {a:Act} (h:Rel w F Θ own S a) (d:Option Nat) (hd:∀k,d=some k→k<S.n) (ts:List Nat) (r:AV) (v:Value) (bs:List Nat)
  (hk:Ks w F w' F' (fun b=>∃t∈ts,b∈own (.t t))) (htop:∀b,w'.heap.size≤b→F' b=0)
  (hr:rv w' F' Θ r v bs) (hn:bs.Nodup) (hb:∀b∈bs,(∃t∈ts,b∈own (.t t))∨w.heap.size≤b) (hl:∀b∈bs,b<w'.heap.size):
  ∃own',Rel w' F' Θ own' ⟨S.n,B1 (BD S.tm ts) d r,S.hp⟩ (a.put d v)∧Stp w F Θ own w' F' Θ own':=by
 have kp0:Kp w F w' F' []:=⟨hk.cell,hk.mono,by simp⟩
 have kp:∀x,(∀t∈ts,x≠ .t t)→Kp w F w' F' (own x):=fun x hx=>⟨hk.cell,hk.mono,fun b hb=>hk.out b (h.lt x b hb) (fun ⟨t,ht,hbt⟩=>h.dj x (.t t) (hx t ht) b hb hbt)⟩
 have hT:∀lv k (x:Nat×Sh),Θ lv k=some x→Θ lv k=some x:=fun _ _ _ q=>q
 let own':Who→List Nat:=fun x=>if (∃k,d=some k∧x=.t k) then bs else if (∃t∈ts,x=.t t) then [] else own x
 have o1:∀k,d=some k→own' (.t k)=bs:=fun k hk=>if_pos ⟨k,hk,rfl⟩
 have o2:∀t,(∀k,d=some k→t≠k)→t∈ts→own' (.t t)=[]:=fun t hne ht=>by
  show(if _ then _ else _)=_
  rw[if_neg (by rintro ⟨k,hk,e⟩;cases e;exact hne _ hk rfl),if_pos ⟨t,ht,rfl⟩]
 have o3:∀t,(∀k,d=some k→t≠k)→t∉ts→own' (.t t)=own (.t t):=fun t hne ht=>by
  show(if _ then _ else _)=_
  rw[if_neg (by rintro ⟨k,hk,e⟩;cases e;exact hne _ hk rfl),if_neg (by rintro ⟨q,hq,e⟩;cases e;exact ht hq)]
 have o4:∀lv k,own' (.h lv k)=own (.h lv k):=fun lv k=>by
  show(if _ then _ else _)=_
  rw[if_neg (by rintro ⟨k,hk,e⟩;cases e),if_neg (by rintro ⟨q,hq,e⟩;cases e)]
 have o5:∀lv k,own' (.l lv k)=own (.l lv k):=fun lv k=>by
  show(if _ then _ else _)=_
  rw[if_neg (by rintro ⟨k,hk,e⟩;cases e),if_neg (by rintro ⟨q,hq,e⟩;cases e)]
 have o6:∀x b,b∈own' x→(b∈bs∧∃k,d=some k∧x=.t k)∨(b∈own x∧∀t∈ts,x≠ .t t):=fun x b hb=>by
  have hb':b∈(if (∃k,d=some k∧x=.t k) then bs else if (∃t∈ts,x=.t t) then [] else own x):=hb
  split at hb'
  ·rename_i hx;exact .inl ⟨hb',hx⟩
  ·split at hb'
   ·simp at hb'
   ·rename_i hx;exact .inr ⟨hb',fun t ht e=>hx ⟨t,ht,e⟩⟩
 refine⟨own',⟨?_,?_,?_,?_,?_,?_,?_,?_,htop,h.gl.ks hk⟩,?_,?_,fun _ _=>rfl⟩
 ·rw[Gp,h.n]
 ·rw[FB,h.df]
 ·intro t
  by_cases hdt:d=some t
  ·subst hdt
   have ht:=hd t rfl
   rw[EE a t t v (by rw[h.n];exact ht),if_pos rfl,o1 t rfl]
   simpa only[B1,Aw] using hr
  ·have hne:∀k,d=some k→t≠k:=fun k hk e=>hdt (e ▸ hk)
   have e1:B1 (BD S.tm ts) d r t=BD S.tm ts t:=by
    cases d with
    |none=>rfl
    |some k=>exact BE _ _ (hne k rfl)
   have e2:(a.put d v).tmps.getD t undef=a.tmps.getD t undef:=by
    cases d with
    |none=>rfl
    |some k=>rw[EE a k t v (by rw[h.n];exact hd k rfl),if_neg (hne k rfl)]
   show rv w' F' Θ (B1 (BD S.tm ts) d r t) _ _
   rw[e1,e2,DQ]
   by_cases ht:t∈ts
   ·rw[if_pos ht,o2 t hne ht]
    exact rv.keep hT _ _ _ (rv.view _ _ _ (h.tm t)) kp0
   ·rw[if_neg ht,o3 t hne ht]
    exact rv.keep hT _ _ _ (h.tm t) (kp _ (fun q hq e=>by cases e;exact ht hq))
 ·intro lv k hq
  rw[o4,o5]
  exact h.hn lv k hq
 ·intro lv k c hq
  obtain⟨b,s,cur,t,h1,h2,h3,h4,h5,h6⟩:=h.hs lv k c hq
  have kl:=(kp (.l lv k) (fun _ _ e=>by cases e)).own b (by rw[h2];simp)
  refine⟨b,s,cur,t,h1,(o5 lv k).trans h2,kl.2.trans h3,h4,kl.1.trans h5,?_⟩
  rw[o4]
  exact rc.keep hT _ _ _ h6 (kp _ (fun _ _ e=>by cases e))
 ·intro x
  show(if _ then _ else if _ then _ else _:List Nat).Nodup
  split
  ·exact hn
  ·split
   ·exact List.nodup_nil
   ·exact h.nd x
 ·intro x y hxy b hbx hby
  rcases o6 x b hbx with ⟨h1,k,hk1,rfl⟩|⟨h1,h2⟩
  ·rcases o6 y b hby with ⟨g1,k2,hk2,rfl⟩|⟨g1,g2⟩
   ·rw[hk1] at hk2;cases hk2;exact hxy rfl
   ·rcases hb b h1 with ⟨t,ht,q⟩|q
    ·exact h.dj y (.t t) (g2 t ht) b g1 q
    ·have:=h.lt y b g1;omega
  ·rcases o6 y b hby with ⟨g1,k2,hk2,rfl⟩|⟨g1,g2⟩
   ·rcases hb b g1 with ⟨t,ht,q⟩|q
    ·exact h.dj x (.t t) (h2 t ht) b h1 q
    ·have:=h.lt x b h1;omega
   ·exact h.dj x y hxy b h1 g1
 ·intro x b hbx
  rcases o6 x b hbx with ⟨h1, -⟩|⟨h1, -⟩
  ·exact hl b h1
  ·exact Nat.lt_of_lt_of_le (h.lt x b h1) hk.size
 ·exact⟨hk.os,hk.tape,hk.output,hk.size,hk.cell,hk.mono,fun b hb hne=>hk.out b hb (fun ⟨t,_,hbt⟩=>hne ⟨.t t,hbt⟩)⟩
 ·intro x b hbx
  rcases o6 x b hbx with ⟨h1, -⟩|⟨h1, -⟩
  ·rcases hb b h1 with ⟨t,_,q⟩|q
   ·exact .inl ⟨_,q⟩
   ·exact .inr q
  ·exact .inl ⟨_,h1⟩
theorem Rel.pure {w:World} {F:Nat→Nat} {Θ:Ty} {own:Who→List Nat} {S:St} {a:Act} (h:Rel w F Θ own S a) (d:Option Nat) (hd:∀k,d=some k→k<S.n) (ts:List Nat) (hts:ts.Nodup) (r:AV) (v:Value)
  (hr:rv w F Θ r v (ts.flatMap fun t=>own (.t t))):∃own',Rel w F Θ own' ⟨S.n,B1 (BD S.tm ts) d r,S.hp⟩ (a.put d v)∧Stp w F Θ own w F Θ own':=by
 refine h.fin d hd ts r v _ (Ks.refl _ _ _) h.top hr ?_ (fun b hb=> ?_) (fun b hb=> ?_)
 ·refine List.pairwise_flatMap.2 ⟨fun t _=>h.nd _,?_⟩
  refine List.Pairwise.imp (fun {x y} hxy b hb c hc e=> ?_) hts
  subst e
  exact h.dj (.t x) (.t y) (fun e=>hxy (by cases e;rfl)) b hb hc
 ·obtain⟨t,ht,q⟩:=List.mem_flatMap.1 hb
  exact .inl ⟨t,ht,q⟩
 ·obtain⟨t,ht,q⟩:=List.mem_flatMap.1 hb
  exact h.lt _ b q
inductive KD where
 |lf
 |str
 |bool
 |int (k:IntKind)
 |sl (e:Nat) (s:Sh)
 |st (fl:List (Nat×Sh))
 |ar (n e:Nat) (s:Sh)
structure TI where
 sh:Sh
 z:DD
 zc:List Value
 bytes:Nat
 kd:KD
def Xy (P:Program) (T:Nat) (sh:Sh):KD→Prop
 | .lf=>sh=.one∧∃d,P.underlying T=some d∧(∀fs,d≠ .struct fs)∧(∀n e,d≠ .array n e)
 | .str=>sh=.one∧P.underlying T=some .string
 | .bool=>sh=.one∧P.underlying T=some .bool
 | .int k=>sh=.one∧P.underlying T=some (.int k)
 | .sl e s=>sh=.one∧0<s.w∧P.underlying T=some (.slice e)∧∃i,P.info? e=some i∧i.size=s.w
 | .st fl=>sh=.st (fl.map Prod.snd)∧∃fs:Array Field,P.underlying T=some (.struct fs)∧fs.size=fl.length∧
   ∀(i:Nat) (t:Nat) (s:Sh),fl[i]? =some (t,s)→∃f,fs[i]? =some f∧f.type=t∧f.offset=Sh.ws ((fl.map Prod.snd).take i)∧0<s.w∧
    (∃j,P.info? t=some j∧j.size=s.w)∧(isAgg t).run P=fun w=> .ok (match s with| .st _=>true| .one=>false) w
 | .ar n e s=>sh=.st (List.replicate n s)∧2≤n∧0<s.w∧P.underlying T=some (.array n e)∧∃i,P.info? e=some i∧i.size=s.w
structure Mg (P:Program) (T:Nat) (ti:TI):Prop where
 info:∃i,P.info? T=some i∧i.size=ti.sh.w∧i.bytes=ti.bytes∧i.zero=some (ti.z.mk ti.zc)
 pos:0<ti.sh.w
 zs:ti.z.sh=ti.sh
 z:∀w F,rp w F ti.z ti.zc []
 kd:Xy P T ti.sh ti.kd
structure Cx where
 P:Program
 ty:Nat→Option TI
 ok:∀T ti,ty T=some ti→Mg P T ti
def Cx.el (c:Cx) (T:Nat):Sh:=match c.ty T with
 |some { kd:=.sl _ s,.. }=>s
 |_=> .one
def cst (c:Cx) (T:Nat):Value→AV
 | .int k n=> .d (.lf (.int k n))
 | .string s=> .d (.lf (.string s))
 | .bool b=> .d (.lf (.bool b))
 | .slice none 0 0=> .d (.sl true (c.el T) [])
 |_=> .un
def evT (c:Cx) (T:Nat) (S:St):Operand→AV
 | .tmp t=>(S.tm t).vw
 | .const v=>cst c T v
 | .func f=> .fn f []
 | .global _=> .un
def tkT (c:Cx) (T:Nat) (S:St):Operand→AV
 | .tmp t=>S.tm t
 | .const v=>cst c T v
 | .func f=> .fn f []
 | .global _=> .un
def okO (c:Cx) (T:Nat):Operand→Prop
 | .const (.int k n)=>k.min≤n∧n≤k.max
 | .const (.string s)=>s.size≤maxLen
 | .const (.slice none 0 0)=>0<(c.el T).w
 |_=>True
def tmO:Operand→List Nat
 | .tmp t=>[t]
 |_=>[]
theorem Wu {c:Cx} {T:Nat} {w:World} {F:Nat→Nat} {Θ:Ty} {v:Value} (h:okO c T (.const v)):rv w F Θ (cst c T v) v []:=by
 unfold cst
 split
 ·simp only[rv,rp];exact⟨_,⟨rfl,h,trivial⟩,rfl⟩
 ·simp only[rv,rp];exact⟨_,⟨rfl,h,trivial⟩,rfl⟩
 ·simp only[rv,rp];exact⟨_,⟨rfl,trivial,trivial⟩,rfl⟩
 ·simp only[rv,rp]
  exact⟨_,⟨by simp,h,none,0,rfl,Nat.le_refl _,Nat.zero_le _,fun _=>rfl,.inl ⟨trivial,trivial,fun _=>rfl⟩⟩,rfl⟩
 ·simp only[rv]
theorem BU {c:Cx} {T:Nat} {w:World} {F:Nat→Nat} {Θ:Ty} {own:Who→List Nat} {S:St} {a:Act} (h:Rel w F Θ own S a) {x:Operand} (ho:okO c T x):rv w F Θ (evT c T S x) (a.eval x) []:=by
 cases x with
 |tmp t=>exact rv.view _ _ _ (h.tm t)
 |const v=>exact Wu ho
 |func f=>simp only[evT,Act.eval,rv,rvS];exact⟨[],rfl,rfl,trivial⟩
 |global g=>simp only[evT,rv]
theorem Gf {c:Cx} {T:Nat} {w:World} {F:Nat→Nat} {Θ:Ty} {own:Who→List Nat} {S:St} {a:Act} (h:Rel w F Θ own S a) {x:Operand} (ho:okO c T x):rv w F Θ (tkT c T S x) (a.eval x) ((tmO x).flatMap fun t=>own (.t t)):=by
 cases x with
 |tmp t=>simp only[tkT,tmO,List.flatMap_cons,List.flatMap_nil,List.append_nil];exact h.tm t
 |const v=>exact Wu ho
 |func f=>simp only[tkT,tmO,List.flatMap_nil,Act.eval,rv,rvS];exact⟨[],rfl,rfl,trivial⟩
 |global g=>simp only[tkT,tmO,List.flatMap_nil,rv]
theorem Ol {c:Cx} {w:World} {F:Nat→Nat} {Θ:Ty} {own:Who→List Nat} {S:St} {a:Act} (h:Rel w F Θ own S a):∀(xs:List (Nat×Operand)),(∀x∈xs,okO c x.1 x.2)→
  rvS w F Θ (xs.map fun x=>tkT c x.1 S x.2) (xs.map fun x=>a.eval x.2) ((xs.flatMap fun x=>tmO x.2).flatMap fun t=>own (.t t))
 |[],_=>by simp[rvS]
 |x::xs,ho=>by
  simp only[List.map_cons,List.flatMap_cons,rvS,List.flatMap_append]
  exact⟨_,_,_,_,rfl,rfl,Gf h (ho x (by simp)),Ol h xs (fun y hy=>ho y (by simp[hy]))⟩
theorem WY {c:Cx} {w:World} {F:Nat→Nat} {Θ:Ty} {own:Who→List Nat} {S:St} {a:Act} (h:Rel w F Θ own S a):∀(xs:List (Nat×Operand)),(∀x∈xs,okO c x.1 x.2)→
  rvS w F Θ (xs.map fun x=>evT c x.1 S x.2) (xs.map fun x=>a.eval x.2) []
 |[],_=>by simp[rvS]
 |x::xs,ho=>by
  simp only[List.map_cons,rvS]
  exact⟨_,_,[],[],rfl,rfl,BU h (ho x (by simp)),WY h xs (fun y hy=>ho y (by simp[hy]))⟩
def FN:BinOp→Value→Value→Value
 | .add,.int k a,.int _ b=> .int k (k.wrap (a+b))
 | .sub,.int k a,.int _ b=> .int k (k.wrap (a - b))
 | .mul,.int k a,.int _ b=> .int k (k.wrap (a*b))
 | .quo,.int k a,.int _ b=> .int k (k.wrap (a.tdiv b))
 | .rem,.int k a,.int _ b=> .int k (a.tmod b)
 | .eql,.int _ a,.int _ b=> .bool (a==b)
 | .neq,.int _ a,.int _ b=> .bool (a !=b)
 | .lss,.int _ a,.int _ b=> .bool (a<b)
 | .leq,.int _ a,.int _ b=> .bool (a≤b)
 | .gtr,.int _ a,.int _ b=> .bool (a>b)
 | .geq,.int _ a,.int _ b=> .bool (a≥b)
 | .add,.string a,.string b=> .string (a++b)
 | .eql,.string a,.string b=> .bool (a.toList==b.toList)
 | .neq,.string a,.string b=> .bool (!(a.toList==b.toList))
 | .eql,.bool a,.bool b=> .bool (a==b)
 | .neq,.bool a,.bool b=> .bool (!(a==b))
 |_,_,_=>undef
def okB:BinOp→Value→Value→Prop
 | .add,.int k _,.int k' _=>k=k'
 | .sub,.int k _,.int k' _=>k=k'
 | .mul,.int k _,.int k' _=>k=k'
 | .quo,.int k _,.int k' b=>k=k'∧b≠0
 | .rem,.int k a,.int k' b=>k=k'∧b≠0∧k.min≤a.tmod b∧a.tmod b≤k.max
 | .eql,.int k _,.int k' _=>k=k'
 | .neq,.int k _,.int k' _=>k=k'
 | .lss,.int k _,.int k' _=>k=k'
 | .leq,.int k _,.int k' _=>k=k'
 | .gtr,.int k _,.int k' _=>k=k'
 | .geq,.int k _,.int k' _=>k=k'
 | .add,.string a,.string b=>a.size+b.size≤maxLen
 | .eql,.string _,.string _=>True
 | .neq,.string _,.string _=>True
 |_,_,_=>False
theorem LQ (k:IntKind) (n:Int):k.min≤k.wrap n∧k.wrap n≤k.max:=by
 cases k<;>simp[IntKind.wrap,IntKind.min,IntKind.max,IntKind.bits,IntKind.signed]<;>(try split)<;>omega
theorem b7 (P:Program) (op:BinOp) (T:Nat) (x y:Operand) (u v:Value) (h:okB op u v) (w:World):(do eqGuard op T x y u v;binOp op T u v:Sem Value).run P w=.ok (FN op u v) w∧BK (FN op u v):=by
 unfold okB at h
 split at h<;>first|exact h.elim|skip
 case h_1|h_2|h_3=>subst h;exact⟨by simp[eqGuard,binOp,Op.intArith,FN],LQ _ _⟩
 case h_4=>obtain⟨rfl,h⟩:=h;exact⟨by simp[eqGuard,binOp,Op.intDiv,FN,h],LQ _ _⟩
 case h_5=>obtain⟨rfl,h,h2⟩:=h;exact⟨by simp[eqGuard,binOp,Op.intDiv,FN,h],h2⟩
 case h_6|h_7|h_8|h_9|h_10|h_11=>subst h;exact⟨by simp[eqGuard,binOp,Op.intCmp,FN],trivial⟩
 case h_12=>
  refine⟨?_,by simp only[FN,BK,ByteArray.size_append];exact h⟩
  rename_i a b
  have h2:¬((a.size+b.size:Nat):Int)>IntKind.i64.max:=by unfold maxLen at h;simp[IntKind.max,IntKind.bits,IntKind.signed];omega
  simp only[eqGuard,binOp,Op.stringOp,FN,if_neg h2]
  rfl
 case h_13|h_14=>exact⟨by simp[eqGuard,binOp,Op.stringOp,FN],trivial⟩
theorem MV (P:Program) (op:BinOp) (T:Nat) (x y:Operand) (a b:Bool) (hT:P.underlying T=some .bool) (h:op=.eql∨op=.neq) (w:World):
  (do eqGuard op T x y (.bool a) (.bool b);binOp op T (.bool a) (.bool b):Sem Value).run P w=.ok (FN op (.bool a) (.bool b)) w∧BK (FN op (.bool a) (.bool b)):=by
 have he:(Op.equalIn Op.maxDepth T (.bool a) (.bool b)).run P w=.ok (a==b) w:=by
  unfold Op.maxDepth Op.equalIn
  simp[run_underlying hT]
 rcases h with rfl|rfl<;>refine⟨?_,trivial⟩<;>simp[eqGuard,binOp,FN,Op.equal,he]
def mvB (mv:List Nat):Option Nat→Bool
 |some d=>mv.contains d
 |none=>false
def TM:DD→Nat→DD
 | .st fs,i=>fs.getD i default
 |d,_=>d
def Ds:List DD→List (Nat×AV)→List DD
 |fs,[]=>fs
 |fs,(i,.d x)::ps=>Ds (fs.set i x) ps
 |fs,_::ps=>Ds fs ps
def cls (mv:List Nat) (o:Oper):List Nat:=match o.op with
 | .move x=>bif mvB mv o.dst then tmO x else []
 | .assign x=>tmO x
 | .box _ x=>tmO x
 | .store _ _ x=>tmO x
 | .build _ ps=>ps.toList.flatMap fun p=>tmO p.2
 | .buildSlice _ _ ps=>ps.toList.flatMap fun p=>tmO p.2
 | .call { callee:=.builtin .append,args,.. }=>args.toList.flatMap tmO
 |_=>[]
def Cx.ft (c:Cx) (T i:Nat):Nat:=match c.ty T with
 |some { kd:=.st fl,.. }=>(fl.getD i (0,.one)).1
 |_=>0
def val (c:Cx) (mv:List Nat) (o:Oper) (S:St):AV:=match o.op with
 | .move x=>bif mvB mv o.dst then tkT c o.type S x else evT c o.type S x
 | .assign x=>tkT c o.type S x
 | .nilCheck x=>evT c o.type S x
 | .pick g x y=>match evT c 0 S g,evT c o.type S x,evT c o.type S y with
  | .d (.lf (.bool b)),.d (.lf (.bool p)),.d (.lf (.bool q))=> .d (.lf (.bool (bif b then p else q)))
  | .d (.lf (.bool true)),p,_=>p
  | .d (.lf (.bool false)),_,q=>q
  |_,_,_=> .un
 | .fieldAddr _ x i=>match evT c 0 S x with
  | .pt lv k p=> .pt lv k (p++[i])
  | .el d=> .el (TM d i)
  |_=> .un
 | .field _ x i=>match evT c 0 S x with
  | .d d=> .d (TM d i)
  |_=> .un
 | .indexAddr T x i=>match evT c T S x,evT c 0 S i with
  | .d (.sl _ _ es),.d (.lf (.int _ n))=> .el (es.getD n.toNat default)
  | .rw lv k _,.d (.lf (.int _ n))=> .pt lv k [n.toNat]
  |_,_=> .un
 | .index _ x i=>match evT c 0 S x,evT c 0 S i with
  | .d (.lf (.string s)),.d (.lf (.int _ n))=> .d (.lf (.int .u8 ((s.data.getD n.toNat 0).toNat:Int)))
  |_,_=> .un
 | .extract x i=>match evT c 0 S x with
  | .tp l=>l.getD i .un
  |_=> .un
 | .binOp op _ x y _=>match evT c 0 S x,evT c 0 S y with
  | .d (.lf u),.d (.lf v)=> .d (.lf (FN op u v))
  |_,_=> .un
 | .unOp op _ x=>match op,evT c 0 S x with
  | .not,.d (.lf (.bool b))=> .d (.lf (.bool (!b)))
  | .neg,.d (.lf (.int k n))=> .d (.lf (.int k (k.wrap (0 - n))))
  |_,_=> .un
 | .convert _ T x=>match c.ty T,evT c 0 S x with
  |some { kd:=.int k,.. },.d (.lf (.int _ n))=> .d (.lf (.int k (k.wrap n)))
  |some { kd:=.str,.. },.d (.lf (.string s))=> .d (.lf (.string s))
  |_,_=> .un
 | .slice T x lo hi none=>match evT c T S x,(match lo with|some l=>evT c 0 S l|none=> .d (.lf (.int .i64 0))),hi.map (evT c 0 S) with
  | .d (.lf (.string s)),.d (.lf (.int _ l)),none=> .d (.lf (.string (s.extract l.toNat s.size)))
  | .d (.lf (.string s)),.d (.lf (.int _ l)),some (.d (.lf (.int _ h)))=> .d (.lf (.string (s.extract l.toNat h.toNat)))
  | .d (.sl _ s es),.d (.lf (.int _ l)),none=> .d (.sl false s (es.drop l.toNat))
  | .d (.sl _ s es),.d (.lf (.int _ l)),some (.d (.lf (.int _ h)))=> .d (.sl false s ((es.take h.toNat).drop l.toNat))
  |_,_,_=> .un
 | .makeFunc (.func f) _ cap=> .fn f (cap.toList.map (evT c 0 S))
 | .build T ps=>match c.ty T with
  |some { z:=.st zs,.. }=> .d (.st (Ds zs (ps.toList.map fun p=>(p.1,tkT c (c.ft T p.1) S p.2))))
  |_=> .un
 | .call { callee:=.builtin .len,args,.. }=>match args.toList.map (evT c 0 S) with
  |[.d (.sl _ _ es)]=> .d (.lf (.int .i64 (es.length:Int)))
  |[.d (.lf (.string s))]=> .d (.lf (.int .i64 (s.size:Int)))
  |[.rw _ _ n]=> .d (.lf (.int .i64 (n:Int)))
  |_=> .un
 | .call { callee:=.builtin .min,args,.. }=>match args.toList.map (evT c 0 S) with
  |[.d (.lf (.int k x)),.d (.lf (.int _ y))]=> .d (.lf (.int k (if y<x then y else x)))
  |_=> .un
 | .call { callee:=.builtin .max,args,.. }=>match args.toList.map (evT c 0 S) with
  |[.d (.lf (.int k x)),.d (.lf (.int _ y))]=> .d (.lf (.int k (if y>x then y else x)))
  |_=> .un
 |_=> .un
