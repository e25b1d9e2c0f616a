/- Part 07. No condition. -/
import Derived.Test.YtgihkamifpmfdaaGreatDoorM06
namespace Go.Proofs.YtgihkamifpmfdaaGreatDoor
open Go.RowKit
set_option linter.unusedVariables false
set_option linter.unusedSimpArgs false
def AV.bl:AV→Prop
 | .d (.lf (.bool _))=>True
 |_=>False
def So (n:Int) (m:Nat):Prop:=0≤n∧n.toNat<m
def okP (c:Cx) (mv:List Nat) (o:Oper) (S:St):Prop:=(∀k,o.dst=some k→k<S.n)∧(cls mv o).Nodup∧match o.op with
 | .move x=>okO c o.type x
 | .assign x=>okO c o.type x
 | .nilCheck x=>okO c o.type x∧match evT c o.type S x with
  | .pt _ _ _=>True
  | .el _=>True
  | .fn _ _=>True
  |_=>False
 | .pick g x y=>okO c 0 g∧okO c o.type x∧okO c o.type y∧match evT c 0 S g with
  | .d (.lf (.bool b))=>val c mv o S=bif b then evT c o.type S x else evT c o.type S y
  |_=>False
 | .fieldAddr T x i=>okO c 0 x∧match c.ty T with
  |some { kd:=.st fl,.. }=>i<fl.length∧match evT c 0 S x with
   | .el (.st fs)=>DD.shs fs=fl.map Prod.snd
   | .pt lv k p=>match hpg S.hp lv k with
    |some cn=>∃s,cn.csh=some s∧∀off,C8 s p=some off→C8 s (p++[i])=some (off+Sh.ws ((fl.map Prod.snd).take i))
    |none=>False
   |_=>False
  |_=>False
 | .field T x i=>okO c 0 x∧match c.ty T with
  |some { kd:=.st fl,.. }=>i<fl.length∧match evT c 0 S x with
   | .d (.st fs)=>DD.shs fs=fl.map Prod.snd
   |_=>False
  |_=>False
 | .indexAddr T x i=>okO c T x∧okO c 0 i∧match c.ty T with
  |some { kd:=.sl _ s',.. }=>match evT c T S x,evT c 0 S i with
   | .d (.sl _ s es),.d (.lf (.int _ n))=>So n es.length∧s=s'
   | .rw lv q m,.d (.lf (.int _ n))=>So n m∧∃cn,hpg S.hp lv q=some cn∧cn.csh=some (.st (List.replicate m s'))
   |_,_=>False
  |_=>False
 | .index T x i=>okO c 0 x∧okO c 0 i∧match c.ty T with
  |some { kd:=.str,.. }=>match evT c 0 S x,evT c 0 S i with
   | .d (.lf (.string s)),.d (.lf (.int _ n))=>So n s.size
   |_,_=>False
  |_=>False
 | .extract x i=>okO c 0 x∧match evT c 0 S x with
  | .tp l=>i<l.length
  |_=>False
 | .binOp op T x y _=>okO c 0 x∧okO c 0 y∧match evT c 0 S x,evT c 0 S y with
  | .d (.lf u),.d (.lf v)=>okB op u v∨∃p q ti,u=.bool p∧v=.bool q∧c.ty T=some ti∧(match ti.kd with| .bool=>True|_=>False)∧(op=.eql∨op=.neq)
  |_,_=>False
 | .unOp .not _ x=>okO c 0 x∧(evT c 0 S x).bl
 | .convert Ts T x=>okO c 0 x∧(∃ts,c.ty Ts=some ts)∧match c.ty T,evT c 0 S x with
  |some { kd:=.int _,.. },.d (.lf (.int _ _))=>True
  |_,_=>False
 | .slice T x lo hi none=>okO c T x∧okX c lo∧okX c hi∧match c.ty T,evT c T S x with
  |some { kd:=.str,.. },.d (.lf (.string s))=>∃l h kl,loV c S lo=.d (.lf (.int kl ((l:Nat):Int)))∧(hi.map (evT c 0 S)=none∧h=s.size∨∃kh,hi.map (evT c 0 S)=some (.d (.lf (.int kh (h:Int)))))∧l≤h∧h≤s.size
  |some { kd:=.sl _ s',.. },.d (.sl _ s es)=>s=s'∧∃l h kl,loV c S lo=.d (.lf (.int kl ((l:Nat):Int)))∧(hi.map (evT c 0 S)=none∧h=es.length∨∃kh,hi.map (evT c 0 S)=some (.d (.lf (.int kh (h:Int)))))∧l≤h∧h≤es.length
  |_,_=>False
 | .makeFunc (.func _) first cap=>first= #[]∧∀x∈cap.toList,okO c 0 x
 | .build T ps=>match c.ty T with
  |some { kd:=.st fl,z:=.st _,.. }=>∀p∈ps.toList,okO c (c.ft T p.1) p.2∧∃x s,tkT c (c.ft T p.1) S p.2=.d x∧(fl.map Prod.snd)[p.1]? =some s∧x.sh=s
  |_=>False
 | .call { callee:=.builtin .len,args,argTypes }=>∃x T,args= #[x]∧argTypes= #[T]∧okO c 0 x∧match c.ty T,evT c 0 S x with
  |some { kd:=.sl _ _,.. },.d (.sl _ _ _)=>True
  |some { kd:=.sl _ _,.. },.rw _ _ _=>True
  |some { kd:=.str,.. },.d (.lf (.string _))=>True
  |_,_=>False
 | .call { callee:=.builtin .min,args,.. }=>∃x y,args= #[x,y]∧okO c 0 x∧okO c 0 y∧∃k m n,evT c 0 S x=.d (.lf (.int k m))∧evT c 0 S y=.d (.lf (.int k n))
 | .call { callee:=.builtin .max,args,.. }=>∃x y,args= #[x,y]∧okO c 0 x∧okO c 0 y∧∃k m n,evT c 0 S x=.d (.lf (.int k m))∧evT c 0 S y=.d (.lf (.int k n))
 | .call { callee:=.builtin .append,args,argTypes }=>∃x y T,args= #[x,y]∧argTypes= #[T,T]∧okO c T x∧okO c T y∧match c.ty T with
  |some { kd:=.sl e s,.. }=>match c.ty e with
   |some te=>te.sh=s∧match tkT c T S x,tkT c T S y with
    | .d (.sl true s1 es),.d (.sl _ s2 ys)=>s1=s∧s2=s∧es.length+ys.length≤maxLen∧(es.length+ys.length)*te.bytes≤140737488355328
    |_,_=>False
   |none=>False
  |_=>False
 | .alloc T=>(∃ti,c.ty T=some ti)∧0<S.hp.length∧∃k,o.dst=some k∧hpg S.hp 0 k=none
 | .box T x=>okO c T x∧0<S.hp.length∧(∃s,(tkT c T S x).csh=some s)∧∃k,o.dst=some k∧hpg S.hp 0 k=none
 | .load T x=>okO c 0 x∧match c.ty T,evT c 0 S x with
  |some ti,.el y=>y.sh=ti.sh
  |some ti,.pt lv k p=>match hpg S.hp lv k with
   |some cn=>(rdA cn p).csh=some ti.sh∧(mvB mv o.dst=true→∃y,cn=.d y)
   |none=>False
  |_,_=>False
 | .store T x y=>okO c 0 x∧okO c T y∧match c.ty T,evT c 0 S x with
  |some ti,.pt lv k p=>match hpg S.hp lv k with
   |some cn=>(rdA cn p).csh=some ti.sh∧(tkT c T S y).csh=some ti.sh∧((∃u z,cn=.d u∧tkT c T S y=.d z)∨p=[])
   |none=>False
  |_,_=>False
 | .buildSlice T n ps=>match c.ty T with
  |some { kd:=.sl e s,.. }=>match c.ty e with
   |some te=>te.sh=s∧n*s.w≤2 ^ 24∧∀p∈ps.toList,okO c e p.2∧p.1<n∧∃x,tkT c e S p.2=.d x∧x.sh=s
   |none=>False
  |_=>False
 | .makeSlice T x y=>y=x∧okO c 0 x∧0<S.hp.length∧(∃k,o.dst=some k∧hpg S.hp 0 k=none)∧match c.ty T,evT c 0 S x with
  |some { kd:=.sl e s,.. },.d (.lf (.int _ n))=>match c.ty e with
   |some te=>te.sh=s∧0≤n∧n≤9223372036854775807∧(te.bytes:Int)*n≤281474976710656
   |none=>False
  |_,_=>False
 |_=>False
theorem Lv {c:Cx} {mv:List Nat} {o:Oper} {S:St} (h:okP c mv o S):Snd c o S (nx c mv o S):=by
 obtain⟨hd,hn,h⟩:=h
 have pure_:(nx c mv o S=nxP c mv o S)→(∀(w:World) (F:Nat→Nat) (Θ:Ty) (own:Who→List Nat) (a:Act),Rel w F Θ own S a→∃v,(execOp a.eval o).run c.P w=.ok (.value v) w∧rv w F Θ (val c mv o S) v ((cls mv o).flatMap fun t=>own (.t t)))→Snd c o S (nx c mv o S):=
  fun e k=>by rw[e];exact Ui hd hn k
 split at h
 case h_1 x ho=>exact pure_ (by unfold nx;simp only[ho]) fun w F Θ own a hR=>eg hR x ho h
 case h_2 x ho=>exact pure_ (by unfold nx;simp only[ho]) fun w F Θ own a hR=>VE hR x ho h
 case h_3 x ho=>
  refine pure_ (by unfold nx;simp only[ho]) fun w F Θ own a hR=>jz hR x ho ?_ h.1
  have h2:=h.2
  split at h2
  ·exact .inl ⟨_,_,_, ‹_›⟩
  ·exact .inr (.inl ⟨_, ‹_›⟩)
  ·exact .inr (.inr ⟨_,_, ‹_›⟩)
  ·exact h2.elim
 case h_4 g x y ho=>
  refine pure_ (by unfold nx;simp only[ho]) fun w F Θ own a hR=> ?_
  obtain⟨h1,h2,h3,h4⟩:=h
  split at h4
  ·exact ed hR g x y ho _ ‹_› h1 h2 h3 h4
  ·exact h4.elim
 case h_5 T x i ho=>
  refine pure_ (by unfold nx;simp only[ho]) fun w F Θ own a hR=> ?_
  obtain⟨h1,h2⟩:=h
  split at h2
  ·rename_i fl ht
   obtain⟨h2,h3⟩:=h2
   split at h3
   ·exact Sl hR T i x ho _ fl _ ht rfl ‹_› h1 h3 h2
   ·split at h3
    ·obtain⟨s,h4,h5⟩:=h3
     exact Sj hR T i x ho _ fl ht rfl _ _ _ _ ‹_› h1 ‹_› s h4 h5 h2
    ·exact h3.elim
   ·exact h3.elim
  ·exact h2.elim
 case h_6 T x i ho=>
  refine pure_ (by unfold nx;simp only[ho]) fun w F Θ own a hR=> ?_
  obtain⟨h1,h2⟩:=h
  split at h2
  ·rename_i fl ht
   obtain⟨h2,h3⟩:=h2
   split at h3
   ·exact Z9 hR T i x ho _ fl _ ht rfl ‹_› h1 h3 h2
   ·exact h3.elim
  ·exact h2.elim
 case h_7 T x i ho=>
  refine pure_ (by unfold nx;simp only[ho]) fun w F Θ own a hR=> ?_
  obtain⟨h1,h2,h3⟩:=h
  split at h3
  ·rename_i s' ht
   split at h3
   ·obtain⟨⟨h4,h5⟩,h6⟩:=h3
    exact Z8 hR T x i ho _ _ s' ht rfl _ _ _ ‹_› h1 _ _ ‹_› h2 h4 h5 h6
   ·obtain⟨⟨h4,h5⟩,cn,h6,h7⟩:=h3
    exact Si hR T x i ho _ _ s' ht rfl _ _ _ ‹_› h1 cn h6 h7 _ _ ‹_› h2 h4 h5
   ·exact h3.elim
  ·exact h3.elim
 case h_8 T x i ho=>
  refine pure_ (by unfold nx;simp only[ho]) fun w F Θ own a hR=> ?_
  obtain⟨h1,h2,h3⟩:=h
  split at h3
  ·rename_i ht
   split at h3
   ·exact P6 hR T x i ho _ ht rfl _ ‹_› h1 _ _ ‹_› h2 h3.1 h3.2
   ·exact h3.elim
  ·exact h3.elim
 case h_9 x i ho=>
  refine pure_ (by unfold nx;simp only[ho]) fun w F Θ own a hR=> ?_
  obtain⟨h1,h2⟩:=h
  split at h2
  ·exact Sm hR x i ho _ ‹_› h1 h2
  ·exact h2.elim
 case h_10 op T x y yT ho=>
  refine pure_ (by unfold nx;simp only[ho]) fun w F Θ own a hR=> ?_
  obtain⟨h1,h2,h3⟩:=h
  split at h3
  ·exact k9 hR op T yT x y ho _ _ ‹_› ‹_› h1 h2 h3
  ·exact h3.elim
 case h_11 T x ho=>
  refine pure_ (by unfold nx;simp only[ho]) fun w F Θ own a hR=> ?_
  obtain⟨h1,h2⟩:=h
  unfold AV.bl at h2
  split at h2
  ·exact jy hR T x ho _ ‹_› h1
  ·exact h2.elim
 case h_12 Ts T x ho=>
  refine pure_ (by unfold nx;simp only[ho]) fun w F Θ own a hR=> ?_
  obtain⟨h1,⟨ts,h2⟩,h3⟩:=h
  split at h3
  ·exact ei hR Ts T x ho _ _ _ _ ts ‹_› rfl h2 ‹_› h1
  ·exact h3.elim
 case h_13 T x lo hi ho=>
  refine pure_ (by unfold nx;simp only[ho]) fun w F Θ own a hR=> ?_
  obtain⟨h1,h2,h3,h4⟩:=h
  split at h4
  ·obtain⟨l,h,kl,g1,g2,g3,g4⟩:=h4
   exact P5 hR T x lo hi ho _ ‹_› rfl _ ‹_› h1 l h kl g1 g2 h2 h3 g3 g4
  ·obtain⟨g0,l,h,kl,g1,g2,g3,g4⟩:=h4
   exact Sg hR T x lo hi ho _ ‹_› _ _ rfl _ _ _ ‹_› h1 g0 l h kl g1 g2 h2 h3 g3 g4
  ·exact h4.elim
 case h_14 f first cap ho=>exact pure_ (by unfold nx;simp only[ho]) fun w F Θ own a hR=>o9 hR f first cap ho h.1 h.2
 case h_15 T ps ho=>
  have e:nx c mv o S=nxP c mv o S:=by unfold nx;simp only[ho]
  rw[e]
  split at h
  ·exact SY hd T ps ho hn _ _ _ ‹_› rfl rfl h
  ·exact h.elim
 case h_16 args ts ho=>
  refine pure_ (by unfold nx;simp only[ho]) fun w F Θ own a hR=> ?_
  obtain⟨x,T,rfl,rfl,h1,h2⟩:=h
  split at h2
  ·exact Qh hR x T _ ho rfl _ ‹_› _ _ rfl h1 (.inl ⟨_,_,_, ‹_›⟩)
  ·exact Qh hR x T _ ho rfl _ ‹_› _ _ rfl h1 (.inr ⟨_,_,_, ‹_›⟩)
  ·exact VD hR x T _ ho rfl _ ‹_› rfl h1 _ ‹_›
  ·exact h2.elim
 case h_17 args ts ho=>
  refine pure_ (by unfold nx;simp only[ho]) fun w F Θ own a hR=> ?_
  obtain⟨x,y,rfl,h1,h2,k,m,n,h3,h4⟩:=h
  exact k8 hR x y .min (.inl rfl) ts _ ho rfl h1 h2 k m n h3 h4
 case h_18 args ts ho=>
  refine pure_ (by unfold nx;simp only[ho]) fun w F Θ own a hR=> ?_
  obtain⟨x,y,rfl,h1,h2,k,m,n,h3,h4⟩:=h
  exact k8 hR x y .max (.inr rfl) ts _ ho rfl h1 h2 k m n h3 h4
 case h_19 args ts ho=>
  obtain⟨x,y,T,rfl,rfl,h1,h2,h3⟩:=h
  split at h3
  ·split at h3
   ·obtain⟨h4,h5⟩:=h3
    split at h5
    ·obtain⟨g1,g2,g3,g4⟩:=h5
     exact Oy hd T x y _ ho rfl hn _ _ _ _ ‹_› rfl ‹_› h4 h1 h2 _ _ _ _ _ ‹_› ‹_› g1 g2 g3 g4
    ·exact h5.elim
   ·exact h3.elim
  ·exact h3.elim
 case h_20 T ho=>
  obtain⟨⟨ti,h1⟩,h2,k,h3,h4⟩:=h
  exact SZ hd T k ho h3 ti h1 h4 h2
 case h_21 T x ho=>
  obtain⟨h1,h2,⟨s,h3⟩,k,h4,h5⟩:=h
  exact Yc hd T k x ho h4 h1 s h3 h5 h2
 case h_22 T x ho=>
  obtain⟨h1,h2⟩:=h
  split at h2
  ·exact Ow hd T x ho _ ‹_› h1 _ ‹_› h2
  ·split at h2
   ·exact Uk hd T x ho _ ‹_› h1 _ _ _ ‹_› _ ‹_› h2.1 h2.2
   ·exact h2.elim
  ·exact h2.elim
 case h_23 T x y ho=>
  obtain⟨h1,h2,h3⟩:=h
  split at h3
  ·split at h3
   ·exact SV hd T x y ho _ ‹_› h1 h2 _ _ _ ‹_› _ ‹_› h3.1 h3.2.1 h3.2.2
   ·exact h3.elim
  ·exact h3.elim
 case h_24 T n ps ho=>
  split at h
  ·split at h
   ·exact JG hd T n ps ho hn _ _ _ _ ‹_› rfl ‹_› h.1 h.2.2 h.2.1
   ·exact h.elim
  ·exact h.elim
 case h_25 T x y ho=>
  obtain⟨rfl,h1,h2,⟨k,h3,h4⟩,h5⟩:=h
  split at h5
  ·split at h5
   ·obtain⟨g1,g2,g3,g4⟩:=h5
    exact Uj hd T k _ ho h3 _ _ _ _ ‹_› rfl ‹_› g1 h1 _ _ ‹_› g2 g3 g4 h4 h2
   ·exact h5.elim
  ·exact h5.elim
 case h_26=>exact h.elim
def W (c:Cx) (code:Code) (S:St) (Q:Exit→St→Prop):Prop:=∀(w:World) (F:Nat→Nat) (Θ:Ty) (own:Who→List Nat) (a:Act),Rel w F Θ own S a→
 code.wp c.P (fun e a' w'=>∃S' F' Θ' own',Q e S'∧Rel w' F' Θ' own' S' a'∧Stp w F Θ own w' F' Θ' own') a w
def DE (K:St→Prop) (Q:Exit→St→Prop):Exit→St→Prop
 | .normal,S=>K S
 |e,S=>Q e S
def TV (id:Nat) (Q:Exit→St→Prop):Exit→St→Prop
 | .exit id',S=>if id'=id then Q .normal S else Q (.exit id') S
 |e,S=>Q e S
section
variable {c:Cx} {S:St} {Q:Exit→St→Prop}
theorem W.mono {code:Code} {Q':Exit→St→Prop} (h:W c code S Q) (hq:∀e S,Q e S→Q' e S):W c code S Q':=fun w F Θ own a hR=>
 wp_mono (h w F Θ own a hR) fun _ _ _ ⟨S',F',Θ',own',h1,h2⟩=>⟨S',F',Θ',own',hq _ _ h1,h2⟩
theorem W.skip (h:Q .normal S):W c .skip S Q:=fun w F Θ own _ hR=>wp_skip ⟨S,F,Θ,own,h,hR,Stp.refl _ _ _ _⟩
theorem W.exit {id:Nat} (h:Q (.exit id) S):W c (.exit id) S Q:=fun w F Θ own _ hR=>wp_exit ⟨S,F,Θ,own,h,hR,Stp.refl _ _ _ _⟩
theorem W.ret (h:Q .ret S):W c .ret S Q:=fun w F Θ own _ hR=>wp_ret ⟨S,F,Θ,own,h,hR,Stp.refl _ _ _ _⟩
theorem W.seq {x y:Code} (h:W c x S (DE (fun S'=>W c y S' Q) Q)):W c (.seq x y) S Q:=fun w F Θ own a hR=>by
 refine wp_seq (wp_mono (h w F Θ own a hR) fun e a1 w1 ⟨S1,F1,Θ1,own1,h1,h2,h3⟩=> ?_)
 cases e with
 |normal=>exact wp_mono (h1 w1 F1 Θ1 own1 a1 h2) fun _ _ _ ⟨S2,F2,Θ2,own2,k1,k2,k3⟩=>⟨S2,F2,Θ2,own2,k1,k2,h3.trans k3⟩
 |exit id=>exact⟨S1,F1,Θ1,own1,h1,h2,h3⟩
 |goto l=>exact⟨S1,F1,Θ1,own1,h1,h2,h3⟩
 |ret=>exact⟨S1,F1,Θ1,own1,h1,h2,h3⟩
 |panic ch=>exact⟨S1,F1,Θ1,own1,h1,h2,h3⟩
 |outgrown=>exact⟨S1,F1,Θ1,own1,h1,h2,h3⟩
theorem W.cond {g:Operand} {x y:Code} (b:Bool) (hg:evT c 0 S g=dB' b) (og:okO c 0 g) (h:W c (if b then x else y) S Q):W c (.cond g x y) S Q:=fun w F Θ own a hR=>
 wp_cond (CM hR hg og).1 (h w F Θ own a hR)
theorem W.block {id:Nat} {x:Code} (h:W c x S (TV id Q)):W c (.block id x) S Q:=fun w F Θ own a hR=>by
 refine wp_block (wp_mono (h w F Θ own a hR) fun e a1 w1 ⟨S1,F1,Θ1,own1,h1,h2,h3⟩=> ?_)
 cases e with
 |exit id'=>
  simp only[TV] at h1
  simp only[Exit.inBlock]
  split
  ·rename_i he;rw[if_pos he] at h1;exact⟨S1,F1,Θ1,own1,h1,h2,h3⟩
  ·rename_i he;rw[if_neg he] at h1;exact⟨S1,F1,Θ1,own1,h1,h2,h3⟩
 |normal=>exact⟨S1,F1,Θ1,own1,h1,h2,h3⟩
 |goto l=>exact⟨S1,F1,Θ1,own1,h1,h2,h3⟩
 |ret=>exact⟨S1,F1,Θ1,own1,h1,h2,h3⟩
 |panic ch=>exact⟨S1,F1,Θ1,own1,h1,h2,h3⟩
 |outgrown=>exact⟨S1,F1,Θ1,own1,h1,h2,h3⟩
def WR (c:Cx) (x:Code) (Q:Exit→St→Prop):Nat→St→Prop
 |0,_=>False
 |n+1,S=>W c x S (DE (WR c x Q n) Q)
theorem W.rounds {x:Code}:∀(n:Nat) {S:St},WR c x Q n S→W c (.loop x) S Q:=by
 intro n S h w F Θ own a hR
 refine wp_loop_rounds n ?_
 induction n generalizing S w F Θ own a with
 |zero=>exact h.elim
 |succ n ih=>
  have key:∀(m:Nat) (S:St) (w1:World) (F1:Nat→Nat) (Θ1:Ty) (own1:Who→List Nat) (a1:Act),WR c x Q m S→Rel w1 F1 Θ1 own1 S a1→Stp w F Θ own w1 F1 Θ1 own1→
    Code.rounds c.P x (fun e a' w'=>∃S' F' Θ' own',Q e S'∧Rel w' F' Θ' own' S' a'∧Stp w F Θ own w' F' Θ' own') m a1 w1:=by
   intro m
   induction m with
   |zero=>intro S w1 F1 Θ1 own1 a1 h _ _;exact h.elim
   |succ m ihm=>
    intro S w1 F1 Θ1 own1 a1 h hR hS
    refine wp_mono (h w1 F1 Θ1 own1 a1 hR) fun e a2 w2 ⟨S2,F2,Θ2,own2,h1,h2,h3⟩=> ?_
    cases e with
    |normal=>exact ihm S2 w2 F2 Θ2 own2 a2 h1 h2 (hS.trans h3)
    |exit id=>exact⟨S2,F2,Θ2,own2,h1,h2,hS.trans h3⟩
    |goto l=>exact⟨S2,F2,Θ2,own2,h1,h2,hS.trans h3⟩
    |ret=>exact⟨S2,F2,Θ2,own2,h1,h2,hS.trans h3⟩
    |panic ch=>exact⟨S2,F2,Θ2,own2,h1,h2,hS.trans h3⟩
    |outgrown=>exact⟨S2,F2,Θ2,own2,h1,h2,hS.trans h3⟩
  exact key (n+1) S w F Θ own a h hR (Stp.refl _ _ _ _)
theorem W.loop {x:Code} (A:Nat→St) (n:Nat) (h:∀k,k≤n→W c x (A k) (DE (fun S'=>k<n∧S'=A (k+1)) Q)):W c (.loop x) (A 0) Q:=by
 have key:∀m k,k+m=n→WR c x Q (m+1) (A k):=by
  intro m
  induction m with
  |zero=>
   intro k hk
   refine(h k (by omega)).mono fun e S hq=> ?_
   cases e with
   |normal=>obtain⟨h1, -⟩:=hq;omega
   |_=>exact hq
  |succ m ih=>
   intro k hk
   refine(h k (by omega)).mono fun e S hq=> ?_
   cases e with
   |normal=>
    obtain⟨-,rfl⟩:=hq
    exact ih (k+1) (by omega)
   |_=>exact hq
 exact W.rounds _ (key n 0 (by omega))
end
def OS (c:Cx) (ops:Array Oper) (o:Oper) (S S':St):Prop:=∀(w:World) (F:Nat→Nat) (Θ:Ty) (own:Who→List Nat) (a:Act),Rel w F Θ own S a→∀(K:Act→World→Prop) (Q:Exit→Act→World→Prop),
 (∀a' w' F' Θ' own',Rel w' F' Θ' own' S' a'→Stp w F Θ own w' F' Θ' own'→K a' w')→if Region.wanted o (yielded ops a.tmps) then o.wp c.P a w K Q else K (a.put o.dst undef) w
def wnt (ops:Array Oper) (o:Oper) (S:St):Option Bool:=match o.guard with
 |none=>some true
 |some (j,b)=>match (ops[j]?).bind (·.dst) with
  |some k=>match S.tm k with
   | .d (.lf (.bool q))=>some (q==b)
   |_=>none
  |none=>none
theorem Dz {c:Cx} {ops:Array Oper} {o:Oper} {S:St} {w:World} {F:Nat→Nat} {Θ:Ty} {own:Who→List Nat} {a:Act} (hR:Rel w F Θ own S a) {b:Bool} (h:wnt ops o S=some b):Region.wanted o (yielded ops a.tmps)=b:=by
 unfold wnt at h
 unfold Region.wanted
 split at h
 ·rename_i hg;rw[hg];simpa using h
 ·rename_i j q hg
  rw[hg]
  split at h
  ·rename_i k hk
   split at h
   ·rename_i p hp
    simp only[Option.some.injEq] at h
    subst h
    have hv:=hR.tm k
    rw[hp] at hv
    simp only[rv,rp] at hv
    obtain⟨cs,⟨rfl, -⟩,hv⟩:=hv
    simp only[DD.mk,List.headD_cons] at hv
    have hlt:k<a.tmps.size:=by
     rcases Nat.lt_or_ge k a.tmps.size with h|h
     ·exact h
     ·rw[Array.getD_eq_getD_getElem?,Array.getElem?_eq_none h] at hv
      simp[undef] at hv
    have hy:yielded ops a.tmps j=some p:=by
     unfold yielded
     rw[hk]
     have:a.tmps[k]? =some (.bool p):=by
      rw[Array.getD_eq_getD_getElem?,Array.getElem?_eq_getElem hlt] at hv
      rw[Array.getElem?_eq_getElem hlt]
      simpa using hv
     simp[this]
    simp only[hy]
    cases p<;>cases q<;>rfl
   ·cases h
  ·cases h
theorem OS.op {c:Cx} {ops:Array Oper} {o:Oper} {S S':St} (hw:wnt ops o S=some true) (h:Snd c o S S'):OS c ops o S S':=by
 intro w F Θ own a hR K Q hK
 rw[if_pos (Dz (c:=c) hR hw)]
 obtain⟨v,w',F',Θ',own',h1,h2,h3⟩:=h w F Θ own a hR
 unfold Oper.wp
 rcases h1 with h1|⟨rfl,h1⟩
 ·rw[h1];exact hK _ _ _ _ _ h2 h3
 ·rw[h1];exact hK _ _ _ _ _ h2 h3
def WO (c:Cx) (ops:Array Oper) (l:List Nat) (S:St) (K:St→Prop):Prop:=∀(w:World) (F:Nat→Nat) (Θ:Ty) (own:Who→List Nat) (a:Act),Rel w F Θ own S a→∀(Q:Exit→Act→World→Prop),
 (∀S' a' w' F' Θ' own',K S'→Rel w' F' Θ' own' S' a'→Stp w F Θ own w' F' Θ' own'→Q .normal a' w')→wpOps c.P ops Q l a w
theorem WO.nil {c:Cx} {ops:Array Oper} {S:St} {K:St→Prop} (h:K S):WO c ops [] S K:=fun _ _ _ _ _ hR _ hQ=>hQ _ _ _ _ _ _ h hR (Stp.refl _ _ _ _)
theorem WO.cons {c:Cx} {ops:Array Oper} {i:Nat} {l:List Nat} {S S1:St} {K:St→Prop} {o:Oper} (ho:ops[i]? =some o) (h:OS c ops o S S1) (k:WO c ops l S1 K):WO c ops (i::l) S K:=by
 intro w F Θ own a hR Q hQ
 simp only[wpOps,ho]
 have:=h w F Θ own a hR (wpOps c.P ops Q l) Q (fun a' w' F' Θ' own' h1 h2=>k w' F' Θ' own' a' h1 Q (fun S2 a2 w2 F2 Θ2 own2 g1 g2 g3=>hQ S2 a2 w2 F2 Θ2 own2 g1 g2 (h2.trans g3)))
 split
 ·rename_i hw;rw[if_pos hw] at this;exact .inl this
 ·rename_i hw;rw[if_neg hw] at this;exact this
theorem W.region {c:Cx} {id:Nat} {ops:Array Oper} {S:St} {Q:Exit→St→Prop} (h:WO c ops (List.range ops.size) S (Q .normal)):W c (.region id ops false) S Q:=fun w F Θ own a hR=>
 wp_region (h w F Θ own a hR _ fun S' _ _ F' Θ' own' h1 h2 h3=>⟨S',F',Θ',own',h1,h2,h3⟩)
def Ck (args:List AV) (h:HP):St:=⟨args.length,fun t=>args.getD t .un,h⟩
def Gr (r:AV) (h:HP):St:=⟨1,fun t=>if t=0 then r else .un,h⟩
def CS (P:Program) (f:Nat) (args:List AV) (h:HP) (r:AV) (h':HP):Prop:=∀(w:World) (F:Nat→Nat) (Θ:Ty) (own:Who→List Nat) (vs:List Value),Rel w F Θ own (Ck args h) ⟨vs.toArray,[]⟩→
 Calls P f vs.toArray w fun e w'=>∃v F' own',e=.returned v∧Rel w' F' Θ own' (Gr r h') ⟨#[v],[]⟩∧Stp w F Θ own w' F' Θ own'
def Cr (c:Cx) (ts:List Nat) (S:St) (T:Nat):Operand→AV
 | .tmp t=>bif ts.contains t then S.tm t else (S.tm t).vw
 |x=>evT c T S x
def Pb (own:Who→List Nat) (ts:List Nat):Operand→List Nat
 | .tmp t=>bif ts.contains t then own (.t t) else []
 |_=>[]
def gvn (ts:List Nat) (xs:List Operand):List Nat:=xs.flatMap fun
 | .tmp t=>bif ts.contains t then [t] else []
 |_=>[]
theorem hM {c:Cx} {T:Nat} {w:World} {F:Nat→Nat} {Θ:Ty} {own:Who→List Nat} {S:St} {a:Act} (h:Rel w F Θ own S a) (ts:List Nat) {x:Operand} (ho:okO c T x):rv w F Θ (Cr c ts S T x) (a.eval x) (Pb own ts x):=by
 cases x with
 |tmp t=>
  simp only[Cr,Pb]
  cases ts.contains t with
  |true=>exact h.tm t
  |false=>exact rv.view _ _ _ (h.tm t)
 |const v=>exact BU h ho
 |func f=>exact BU h ho
 |global g=>exact BU h ho
structure CU (P:Program) (g:Nat) (fn:Func) (body:Code):Prop where
 get:P.funcs[g]? =some fn
 bd:fn.body=some body
 nm:(fn.name== "runtime.NumGoroutine")=false
theorem Ij {w:World} {F:Nat→Nat} {Θ:Ty}:∀(l:List AV) (vs:List Value),rvS w F Θ l vs []→l.length=vs.length∧∀i,rv w F Θ (l.getD i .un) (vs.getD i undef) []
 |[],vs,h=>by
  simp only[rvS] at h
  obtain⟨rfl, -⟩:=h
  exact⟨rfl,fun i=>by simp[rv]⟩
 |b::l,vs,h=>by
  simp only[rvS] at h
  obtain⟨v,r,b1,b2,rfl,hb,g1,g2⟩:=h
  obtain⟨rfl,rfl⟩:=List.append_eq_nil_iff.1 hb.symm
  obtain⟨k1,k2⟩:=Ij l r g2
  refine⟨by simp[k1],fun i=> ?_⟩
  cases i with
  |zero=>simpa using g1
  |succ i=>simpa using k2 i
def CSP (P:Program) (f:Nat) (p:List Value→Prop) (args:List AV) (h:HP) (r:AV) (h':HP):Prop:=∀(w:World) (F:Nat→Nat) (Θ:Ty) (own:Who→List Nat) (vs:List Value),p vs→Rel w F Θ own (Ck args h) ⟨vs.toArray,[]⟩→
 Calls P f vs.toArray w fun e w'=>∃v F' own',e=.returned v∧Rel w' F' Θ own' (Gr r h') ⟨#[v],[]⟩∧Stp w F Θ own w' F' Θ own'
theorem OS.callP {c:Cx} {ops:Array Oper} {o:Oper} {S:St} (hd:∀k,o.dst=some k→k<S.n) (hw:wnt ops o S=some true) (f:Operand) (args:Array Operand) (argTypes:Array TypeId) (ho:o.op=.call { callee:=.value f,args,argTypes }) (ts:List Nat)
  (g:Nat) (caps:List AV) (hf:evT c 0 S f=.fn g caps) (of:okO c 0 f) (fn:Func) (body:Code) (hg:CU c.P g fn body) (Ts:List Nat) (hTs:Ts.length=args.toList.length) (hok:∀x∈Ts.zip args.toList,okO c x.1 x.2) (hn:(gvn ts args.toList).Nodup)
  (r:AV) (h':HP) (p:List Value→Prop) (hp:∀(a:Act) (vc:List Value),p (args.toList.map a.eval++vc)) (hc:CSP c.P g p ((Ts.zip args.toList).map (fun x=>Cr c ts S x.1 x.2)++caps) S.hp r h'):OS c ops o S ⟨S.n,B1 (BD S.tm (gvn ts args.toList)) o.dst r,h'⟩:=by
 intro w F Θ own a hR K Q hK
 rw[if_pos (Dz (c:=c) hR hw)]
 have hfv:=BU hR of
 rw[hf] at hfv
 simp only[rv] at hfv
 obtain⟨vc,ef,hvc⟩:=hfv
 obtain⟨hcl,hcg⟩:=Ij caps vc hvc
 have hrun:(execOp a.eval o).run c.P w=.ok (.enter g (args.map a.eval++vc.toArray)) w:=by
  have hne:=hg.bd
  have hnm:=hg.nm
  unfold execOp
  simp only[ho,resolve,ef]
  simp[Deferred.ofValue,invoke,callFunc,hg.get,hne]
  simp only[beq_eq_false_iff_ne] at hnm
  simp[hnm]
 unfold Oper.wp
 rw[hrun,Oper.upon_enter]
 have hlen:(Ts.zip args.toList).length=args.toList.length:=by simp[hTs]
 -- what the arguments own
 let avs:=(Ts.zip args.toList).map (fun x=>Cr c ts S x.1 x.2)++caps
 let vs:=args.toList.map a.eval++vc
 have hvl:avs.length=vs.length:=by simp only[avs,vs,List.length_append,List.length_map,hlen,hcl]
 let ow:Nat→List Nat:=fun i=>match args.toList[i]? with
  |some x=>Pb own ts x
  |none=>[]
 have hrv:∀i,rv w F Θ (avs.getD i .un) (vs.getD i undef) (ow i):=by
  intro i
  by_cases hi:i<args.toList.length
  ·have h1:(Ts.zip args.toList)[i]? =some (Ts[i]'(by omega),args.toList[i]):=by
    rw[List.getElem?_eq_getElem (by omega)];simp
   have ha:avs.getD i .un=Cr c ts S (Ts[i]'(by omega)) args.toList[i]:=by
    simp only[avs,List.getD_eq_getElem?_getD]
    rw[List.getElem?_append_left (by simp[hTs];exact hi),List.getElem?_map,h1];rfl
   have hv:vs.getD i undef=a.eval args.toList[i]:=by
    simp only[vs,List.getD_eq_getElem?_getD]
    rw[List.getElem?_append_left (by simpa using hi),List.getElem?_map,List.getElem?_eq_getElem hi];rfl
   have hw:ow i=Pb own ts args.toList[i]:=by simp only[ow,List.getElem?_eq_getElem hi]
   rw[ha,hv,hw]
   exact hM hR ts (hok _ (List.mem_of_getElem? h1))
  ·have hw:ow i=[]:=by simp only[ow,List.getElem?_eq_none (Nat.le_of_not_lt hi)]
   have ha:avs.getD i .un=caps.getD (i - args.toList.length) .un:=by
    simp only[avs,List.getD_eq_getElem?_getD]
    rw[List.getElem?_append_right (by simp[hTs] at hi ⊢;omega)];simp[hTs]
   have hv:vs.getD i undef=vc.getD (i - args.toList.length) undef:=by
    simp only[vs,List.getD_eq_getElem?_getD]
    rw[List.getElem?_append_right (by simp at hi ⊢;omega)];simp
   rw[ha,hv,hw]
   exact hcg _
 have how:∀i b,b∈ow i→∃t,args.toList[i]? =some (Operand.tmp t)∧ts.contains t=true∧b∈own (.t t):=by
  intro i b hb
  simp only[ow] at hb
  split at hb
  ·rename_i x hx
   cases x with
   |tmp t=>
    simp only[Pb] at hb
    cases hc:ts.contains t with
    |true=>rw[hc] at hb;exact⟨t,hx,hc,hb⟩
    |false=>rw[hc] at hb;simp at hb
   |_=>simp[Pb] at hb
  ·simp at hb
 have hgv:∀t:Nat,t∈gvn ts args.toList↔∃i:Nat,args.toList[i]? =some (Operand.tmp t)∧ts.contains t=true:=by
  intro t
  simp only[gvn,List.mem_flatMap]
  constructor
  ·rintro ⟨x,hx,ht⟩
   cases x with
   |tmp u=>
    simp only at ht
    cases hc:ts.contains u with
    |true=>
     rw[hc] at ht
     have:t=u:=by simpa using ht
     subst this
     obtain⟨i,hi,e⟩:=List.getElem_of_mem hx
     exact⟨i,by rw[List.getElem?_eq_getElem hi,e],hc⟩
    |false=>rw[hc] at ht;simp at ht
   |_=>simp at ht
  ·rintro ⟨i,hi,hc⟩
   refine⟨.tmp t,List.mem_of_getElem? hi,?_⟩
   simp only[hc,cond_true,List.mem_singleton]
 have hinj:∀(i j t:Nat),args.toList[i]? =some (Operand.tmp t)→args.toList[j]? =some (Operand.tmp t)→ts.contains t=true→i=j:=by
  have key:∀(l:List Operand),(gvn ts l).Nodup→∀(i j t:Nat),l[i]? =some (Operand.tmp t)→l[j]? =some (Operand.tmp t)→ts.contains t=true→i=j:=by
   intro l
   induction l with
   |nil=>intro _ i j t hi;simp at hi
   |cons x l ih=>
    intro hn i j t hi hj hc
    simp only[gvn,List.flatMap_cons] at hn
    have hmem:∀k,l[k]? =some (Operand.tmp t)→t∈gvn ts l:=fun k hk=>by
     simp only[gvn,List.mem_flatMap]
     exact⟨.tmp t,List.mem_of_getElem? hk,by simp only[hc,cond_true,List.mem_singleton]⟩
    have hn2:=List.nodup_append.1 hn
    cases i with
    |zero=>
     cases j with
     |zero=>rfl
     |succ j=>
      simp only[List.getElem?_cons_zero,Option.some.injEq] at hi
      subst hi
      exact absurd rfl (hn2.2.2 t (by simp only[hc,cond_true,List.mem_singleton]) t (hmem j (by simpa using hj)))
    |succ i=>
     cases j with
     |zero=>
      simp only[List.getElem?_cons_zero,Option.some.injEq] at hj
      subst hj
      exact absurd rfl (hn2.2.2 t (by simp only[hc,cond_true,List.mem_singleton]) t (hmem i (by simpa using hi)))
     |succ j=>rw[ih hn2.2.1 i j t (by simpa using hi) (by simpa using hj) hc]
  exact key _ hn
 let ownE:Who→List Nat:=fun
  | .t i=>ow i
  | .h lv k=>own (.h lv k)
  | .l lv k=>own (.l lv k)
 have srcE:∀x b,b∈ownE x→∃y,b∈own y∧(∀t,y=.t t→t∈gvn ts args.toList):=by
  intro x b hb
  cases x with
  |t i=>
   obtain⟨t,h1,h2,h3⟩:=how i b hb
   exact⟨.t t,h3,fun u e=>by cases e;exact(hgv _).2 ⟨i,h1,h2⟩⟩
  |h lv k=>exact⟨.h lv k,hb,fun _ e=>by cases e⟩
  |l lv k=>exact⟨.l lv k,hb,fun _ e=>by cases e⟩
 have hRE:Rel w F Θ ownE (Ck avs S.hp) ⟨vs.toArray,[]⟩:=by
  refine⟨by simp[Ck,hvl],rfl,fun t=> ?_,hR.hn,hR.hs,?_,?_,?_,hR.top,hR.gl⟩
  ·have:=hrv t
   simpa[Ck,List.getD_eq_getElem?_getD,Array.getD_eq_getD_getElem?] using this
  ·intro x
   cases x with
   |t i=>
    show(ow i).Nodup
    simp only[ow]
    split
    ·rename_i x _
     cases x with
     |tmp t=>simp only[Pb];cases ts.contains t;exact List.nodup_nil;exact hR.nd _
     |_=>exact List.nodup_nil
    ·exact List.nodup_nil
   |h lv k=>exact hR.nd _
   |l lv k=>exact hR.nd _
  ·intro x y hxy b hx hy
   cases x with
   |t i=>
    obtain⟨t,h1,h2,h3⟩:=how i b hx
    cases y with
    |t j=>
     obtain⟨u,g1,g2,g3⟩:=how j b hy
     by_cases hu:t=u
     ·subst hu;exact hxy (by rw[hinj i j t h1 g1 h2])
     ·exact hR.dj (.t t) (.t u) (fun e=>hu (by cases e;rfl)) b h3 g3
    |h lv k=>exact hR.dj (.t t) (.h lv k) (by simp) b h3 hy
    |l lv k=>exact hR.dj (.t t) (.l lv k) (by simp) b h3 hy
   |h lv k=>
    cases y with
    |t j=>obtain⟨u,g1,g2,g3⟩:=how j b hy;exact hR.dj (.h lv k) (.t u) (by simp) b hx g3
    |h lv' k'=>exact hR.dj _ _ hxy b hx hy
    |l lv' k'=>exact hR.dj _ _ hxy b hx hy
   |l lv k=>
    cases y with
    |t j=>obtain⟨u,g1,g2,g3⟩:=how j b hy;exact hR.dj (.l lv k) (.t u) (by simp) b hx g3
    |h lv' k'=>exact hR.dj _ _ hxy b hx hy
    |l lv' k'=>exact hR.dj _ _ hxy b hx hy
  ·intro x b hb
   obtain⟨y,hy, -⟩:=srcE x b hb
   exact hR.lt y b hy
 have hvs:(args.map a.eval++vc.toArray)=vs.toArray:=by simp[vs]
 rw[hvs]
 refine Calls.mono (hc w F Θ ownE vs (hp a vc) hRE) fun e w' ⟨v,F',own',he,hR',hS⟩=> ?_
 subst he
 -- what bu with the caller
 let ownN:Who→List Nat:=fun x=>match x with
  | .t t=>if o.dst=some t then own' (.t 0) else if t∈gvn ts args.toList then [] else own (.t t)
  | .h lv k=>own' (.h lv k)
  | .l lv k=>own' (.l lv k)
 have oth:∀x b,b∈own' x→∀t,t∉gvn ts args.toList→b∉own (.t t):=by
  intro x b hb t ht hbt
  rcases hS.fr x b hb with ⟨y,hy⟩|hy
  ·obtain⟨z,hz,hz2⟩:=srcE y b hy
   by_cases e:z=.t t
   ·exact ht (hz2 t e)
   ·exact hR.dj z (.t t) e b hz hbt
  ·have:=hR.lt _ b hbt;omega
 have kpt : ∀ t, t ∉ gvn ts args.toList → Kp w F w' F' (own (.t t)) := fun t ht => ⟨hS.ks.cell, hS.ks.mono, fun b hb => hS.ks.out b (hR.lt _ b hb) (fun ⟨x, hx⟩ => by
  obtain⟨z,hz,hz2⟩:=srcE x b hx
  by_cases e:z=.t t
  ·exact ht (hz2 t e)
  ·exact hR.dj z (.t t) e b hz hb)⟩
 have kp0:Kp w F w' F' []:=⟨hS.ks.cell,hS.ks.mono,by simp⟩
 have hT:∀lv k (x:Nat×Sh),Θ lv k=some x→Θ lv k=some x:=fun _ _ _ q=>q
 have hr0:rv w' F' Θ r v (own' (.t 0)):=by simpa[Gr] using hR'.tm 0
 have cases4:∀x b,b∈ownN x→(∃y,b∈own' y∧((x=.t (o.dst.getD 0)∧(∃k,o.dst=some k)∧y=.t 0)∨((∀t,x≠ .t t)∧y=x)))∨(∃t,x=.t t∧o.dst≠some t∧t∉gvn ts args.toList∧b∈own (.t t)):=by
  intro x b hb
  cases x with
  |t t=>
   simp only[ownN] at hb
   split at hb
   ·rename_i hd2;exact .inl ⟨_,hb,.inl ⟨by rw[hd2];rfl,⟨t,hd2⟩,rfl⟩⟩
   ·split at hb
    ·simp at hb
    ·exact .inr ⟨t,rfl, ‹_›, ‹_›,hb⟩
  |h lv k=>exact .inl ⟨_,hb,.inr ⟨by simp,rfl⟩⟩
  |l lv k=>exact .inl ⟨_,hb,.inr ⟨by simp,rfl⟩⟩
 refine hK _ _ F' Θ ownN ⟨?_,?_,?_,hR'.hn,hR'.hs,?_,?_,?_,hR'.top,hR'.gl⟩ ⟨?_,?_,fun _ _=>rfl⟩
 ·rw[Gp,hR.n]
 ·rw[FB,hR.df]
 ·intro t
  show rv w' F' Θ (B1 (BD S.tm (gvn ts args.toList)) o.dst r t) _ _
  by_cases hdt:o.dst=some t
  ·rw[hdt,EE a t t v (by rw[hR.n];exact hd t hdt),if_pos rfl]
   simp only[B1,Aw]
   have:ownN (.t t)=own' (.t 0):=if_pos hdt
   rw[this];exact hr0
  ·have e1:B1 (BD S.tm (gvn ts args.toList)) o.dst r t=BD S.tm (gvn ts args.toList) t:=by
    cases hq:o.dst with
    |none=>rfl
    |some k=>exact BE _ _ (fun e=>hdt (by rw[hq,e]))
   have e2:(a.put o.dst v).tmps.getD t undef=a.tmps.getD t undef:=by
    cases hq:o.dst with
    |none=>rfl
    |some k=>rw[EE a k t v (by rw[hR.n];exact hd k hq),if_neg (fun e=>hdt (by rw[hq,e]))]
   rw[e1,e2,DQ]
   by_cases hm:t∈gvn ts args.toList
   ·have:ownN (.t t)=[]:=by simp only[ownN,if_neg hdt,if_pos hm]
    rw[if_pos hm,this]
    exact rv.keep hT _ _ _ (rv.view _ _ _ (hR.tm t)) kp0
   ·have:ownN (.t t)=own (.t t):=by simp only[ownN,if_neg hdt,if_neg hm]
    rw[if_neg hm,this]
    exact rv.keep hT _ _ _ (hR.tm t) (kpt t hm)
 ·intro x
  cases x with
  |t t=>
   show(if _ then _ else if _ then _ else _:List Nat).Nodup
   split
   ·exact hR'.nd _
   ·split
    ·exact List.nodup_nil
    ·exact hR.nd _
  |h lv k=>exact hR'.nd _
  |l lv k=>exact hR'.nd _
 ·intro x y hxy b hx hy
  rcases cases4 x b hx with ⟨x',hx',hx2⟩|⟨t,rfl,h2,h3,h4⟩<;>rcases cases4 y b hy with ⟨y',hy',hy2⟩|⟨u,rfl,g2,g3,g4⟩
  ·have hne:x'≠y':=by
    rintro rfl
    rcases hx2 with ⟨rfl, -,rfl⟩|⟨h1,rfl⟩<;>rcases hy2 with ⟨rfl, -,e⟩|⟨g1,e⟩
    ·exact hxy rfl
    ·exact g1 _ e.symm
    ·exact h1 _ e
    ·exact hxy e
   exact hR'.dj x' y' hne b hx' hy'
  ·exact oth x' b hx' u g3 g4
  ·exact oth y' b hy' t h3 h4
  ·exact hR.dj (.t t) (.t u) hxy b h4 g4
 ·intro x b hb
  rcases cases4 x b hb with ⟨x',hx', -⟩|⟨t,rfl,h2,h3,h4⟩
  ·exact hR'.lt x' b hx'
  ·exact Nat.lt_of_lt_of_le (hR.lt _ b h4) hS.ks.size
 ·exact⟨hS.ks.os,hS.ks.tape,hS.ks.output,hS.ks.size,hS.ks.cell,hS.ks.mono,fun b hb hne=>hS.ks.out b hb (fun ⟨x,hx⟩=>by obtain⟨z,hz, -⟩:=srcE x b hx;exact hne ⟨z,hz⟩)⟩
 ·intro x b hb
  rcases cases4 x b hb with ⟨x',hx', -⟩|⟨t,rfl,h2,h3,h4⟩
  ·rcases hS.fr x' b hx' with ⟨y,hy⟩|hy
   ·obtain⟨z,hz, -⟩:=srcE y b hy;exact .inl ⟨z,hz⟩
   ·exact .inr hy
  ·exact .inl ⟨_,h4⟩
theorem OS.call {c:Cx} {ops:Array Oper} {o:Oper} {S:St} (hd:∀k,o.dst=some k→k<S.n) (hw:wnt ops o S=some true) (f:Operand) (args:Array Operand) (argTypes:Array TypeId) (ho:o.op=.call { callee:=.value f,args,argTypes }) (ts:List Nat)
  (g:Nat) (caps:List AV) (hf:evT c 0 S f=.fn g caps) (of:okO c 0 f) (fn:Func) (body:Code) (hg:CU c.P g fn body) (Ts:List Nat) (hTs:Ts.length=args.toList.length) (hok:∀x∈Ts.zip args.toList,okO c x.1 x.2) (hn:(gvn ts args.toList).Nodup)
  (r:AV) (h':HP) (hc:CS c.P g ((Ts.zip args.toList).map (fun x=>Cr c ts S x.1 x.2)++caps) S.hp r h'):OS c ops o S ⟨S.n,B1 (BD S.tm (gvn ts args.toList)) o.dst r,h'⟩:=
 OS.callP hd hw f args argTypes ho ts g caps hf of fn body hg Ts hTs hok hn r h' (fun _=>True) (fun _ _=>trivial) fun w F Θ own vs _ hR=>hc w F Θ own vs hR
