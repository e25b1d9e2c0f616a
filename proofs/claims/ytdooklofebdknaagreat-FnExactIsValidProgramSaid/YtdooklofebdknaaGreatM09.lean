/- Part 09. No condition. -/
import Derived.Test.YtdooklofebdknaaGreatM08
namespace Go.Proofs.YtdooklofebdknaaGreat
open Go.RowKit
set_option linter.unusedSimpArgs false
set_option linter.unusedVariables false
inductive Ef where
  |val
  |ld (lv k:Nat)
  |al (k:Nat) (cn:AV)
  |st (lv k:Nat) (cn:AV)
  |hp (h:HP)
  |bw (t:Nat)
structure Fsk where
  o:Oper
  ts:List Nat
  r:AV
  ef:Ef
def Ef.ap:Ef→HP→HP
  | .val,h=>h
  | .ld _ _,h=>h
  | .al k cn,h=>hps h 0 k (some cn)
  | .st lv k cn,h=>hps h lv k (some cn)
  | .hp h',_=>h'
  | .bw _,h=>h
def Ef.bs:Ef→List Nat
  | .bw t=>[t]
  |_=>[]
def Fsk.ap (f:Fsk) (S:St):St:=⟨S.n,B0 (BB S.tm f.ts) f.o.dst f.r,f.ef.ap S.hp⟩
def Ef.agr:Ef→HP→HP→Prop
  | .val,_,_=>True
  | .ld lv k,h,h'=>hpg h' lv k=hpg h lv k
  | .al k _,h,h'=>hpg h' 0 k=hpg h 0 k∧h'.length=h.length
  | .st lv k _,h,h'=>hpg h' lv k=hpg h lv k
  | .hp _,h,h'=>h'=h
  | .bw _,_,_=>True
structure Fsk.agr (ops:Array Oper) (f:Fsk) (S S':St):Prop where
  n:S'.n=S.n
  rd:∀t∈f.o.looksAt ops,(S'.tm t).vw=(S.tm t).vw
  ts:∀t∈f.ts,S'.tm t=S.tm t
  hp:f.ef.agr S.hp S'.hp
  bw:∀t∈f.ef.bs,S'.tm t=S.tm t
def Fsk.valid (c:Cx) (ops:Array Oper) (f:Fsk) (S:St):Prop:=∀S',f.agr ops S S'→OS c ops f.o S' (f.ap S')
theorem Fsk.agr.refl {ops:Array Oper} {f:Fsk} {S:St}:f.agr ops S S:=⟨rfl,fun _ _=>rfl,fun _ _=>rfl,by cases f.ef<;>simp[Ef.agr],fun _ _=>rfl⟩
theorem Fsk.agr.trans {ops:Array Oper} {f:Fsk} {S1 S2 S3:St} (h:f.agr ops S1 S2) (k:f.agr ops S2 S3):f.agr ops S1 S3:=by
  refine⟨k.n.trans h.n,fun t ht=>(k.rd t ht).trans (h.rd t ht),fun t ht=>(k.ts t ht).trans (h.ts t ht),?_,fun t ht=>(k.bw t ht).trans (h.bw t ht)⟩
  have h1:=h.hp;have h2:=k.hp
  cases he:f.ef<;>rw[he] at h1 h2<;>simp only[Ef.agr] at h1 h2 ⊢
  · exact h2.trans h1
  · exact⟨h2.1.trans h1.1,h2.2.trans h1.2⟩
  · exact h2.trans h1
  · exact h2.trans h1
theorem Fsk.valid.agr {c:Cx} {ops:Array Oper} {f:Fsk} {S S':St} (h:f.valid c ops S) (k:f.agr ops S S'):f.valid c ops S':=fun S2 q=>h S2 (k.trans q)
def Kh:Ef→Ef→Bool
  | .val,.val=>true
  | .val,.ld _ _=>true
  | .ld _ _,.val=>true
  | .ld _ _,.ld _ _=>true
  | .val,.al _ _=>true
  | .al _ _,.val=>true
  | .ld _ _,.al _ _=>true
  | .val,.hp _=>true
  | .hp _,.val=>true
  | .val,.st _ _ _=>true
  | .st _ _ _,.val=>true
  | .ld a b,.st p q _=> !(a==p && b==q)
  | .st a b _,.ld p q=> !(a==p && b==q)
  | .st a b _,.al k _=> !(a==0 && b==k)
  | .al k _,.st a b _=> !(a==0 && b==k)
  | .al k _,.al j _=> !(k==j)
  | .st a b _,.st p q _=> !(a==p && b==q)
  | .val,.bw _=>true
  | .bw _,.val=>true
  | .bw _,.bw _=>true
  | .bw _,.ld _ _=>true
  | .ld _ _,.bw _=>true
  | .bw _,.al _ _=>true
  | .al _ _,.bw _=>true
  | .bw _,.hp _=>true
  | .hp _,.bw _=>true
  | .bw _,.st _ _ _=>true
  | .st _ _ _,.bw _=>true
  |_,_=>false
def bwB (x y:Fsk):Bool:=y.ef.bs.all fun t=> !x.ts.contains t && x.o.dst !=some t
def VC (ops:Array Oper) (x y:Fsk):Bool:=
  (match x.o.dst with
   |some d=> !(y.o.looksAt ops).contains d && !y.ts.contains d && y.o.dst !=some d
   |none=>true) &&
  (match y.o.dst with
   |some d=> !(x.o.looksAt ops).contains d && !x.ts.contains d
   |none=>true) &&
  (x.ts.all fun t=> !y.ts.contains t) && Kh x.ef y.ef && (bwB x y && bwB y x)
structure Ind (ops:Array Oper) (x y:Fsk):Prop where
  xy:∀d,x.o.dst=some d→d∉y.o.looksAt ops∧d∉y.ts∧y.o.dst≠some d
  yx:∀d,y.o.dst=some d→d∉x.o.looksAt ops∧d∉x.ts
  ts:∀t∈x.ts,t∉y.ts
  kd:Kh x.ef y.ef=true
  b1:∀t∈y.ef.bs,t∉x.ts∧x.o.dst≠some t
  b2:∀t∈x.ef.bs,t∉y.ts∧y.o.dst≠some t
theorem VB {ops:Array Oper} {x y:Fsk} (h:VC ops x y=true):Ind ops x y:=by
  simp only[VC,Bool.and_eq_true] at h
  obtain⟨⟨⟨⟨h1,h2⟩,h3⟩,h4⟩,h5,h6⟩:=h
  have hb:∀a b:Fsk,bwB a b=true→∀t∈b.ef.bs,t∉a.ts∧a.o.dst≠some t:=fun a b hq t ht=>by
    unfold bwB at hq
    have:=List.all_eq_true.1 hq t ht
    simpa using this
  refine⟨fun d hd=> ?_,fun d hd=> ?_,fun t ht=> ?_,h4,hb x y h5,hb y x h6⟩
  · rw[hd] at h1
    simp only[Bool.and_eq_true,Bool.not_eq_true',List.contains_eq_mem,decide_eq_false_iff_not,bne_iff_ne] at h1
    exact⟨h1.1.1,h1.1.2,h1.2⟩
  · rw[hd] at h2
    simp only[Bool.and_eq_true,Bool.not_eq_true',List.contains_eq_mem,decide_eq_false_iff_not] at h2
    exact h2
  · simp only[List.all_eq_true,Bool.not_eq_true',List.contains_eq_mem,decide_eq_false_iff_not] at h3
    exact h3 t ht
theorem FF (f:Fsk) (S:St) (t:Nat) (h:f.o.dst≠some t):(f.ap S).tm t=if t∈f.ts then (S.tm t).vw else S.tm t:=by
  show B0 (BB S.tm f.ts) f.o.dst f.r t=_
  have:B0 (BB S.tm f.ts) f.o.dst f.r t=BB S.tm f.ts t:=by
    cases hd:f.o.dst with
    |none=>rfl
    |some d=>exact BC _ _ (fun e=>h (by rw[hd,e]))
  rw[this,DP]
theorem JQ:∀(h:HP) (a b k:Nat) (u v:Option AV),¬(a=0∧b=k)→hps (hps h 0 k v) a b u=hps (hps h a b u) 0 k v
  |[],_,_,_,_,_,_=>rfl
  |f::h,0,b,k,u,v,n=>by
    show upd (upd f k v) b u::h=upd (upd f b u) k v::h
    congr 1
    funext q
    simp only[upd]
    cases hb:q==b<;>cases hk:q==k<;>simp
    simp only[beq_iff_eq] at hb hk
    exact absurd ⟨rfl,hb.symm.trans hk⟩ n
  |f::h,a+1,b,k,u,v,_=>rfl
theorem Kl:∀(h:HP) (a b p q:Nat) (u v:Option AV),¬(a=p∧b=q)→hps (hps h p q v) a b u=hps (hps h a b u) p q v
  |[],_,_,_,_,_,_,_=>rfl
  |f::h,0,b,0,q,u,v,n=>JQ (f::h) 0 b q u v (fun e=>n ⟨rfl,e.2⟩)
  |f::h,0,b,p+1,q,u,v,_=>rfl
  |f::h,a+1,b,0,q,u,v,_=>rfl
  |f::h,a+1,b,p+1,q,u,v,n=>congrArg (f:: ·) (Kl h a b p q u v (fun e=>n ⟨by rw[e.1],e.2⟩))
theorem Gr:∀(h:HP) (lv k:Nat) (v:Option AV),(hps h lv k v).length=h.length
  |[],_,_,_=>rfl
  |_::_,0,_,_=>rfl
  |_::h,lv+1,k,v=>by simp only[hps,List.length_cons,Gr h lv k v]
theorem jY {ops:Array Oper} {x y:Fsk} (I:Ind ops x y) (S:St):y.agr ops (x.ap S) S:=by
  have hd:∀t,t∈y.o.looksAt ops∨t∈y.ts→x.o.dst≠some t:=fun t ht e=>by
    have:=I.xy t e
    rcases ht with h|h
    · exact this.1 h
    · exact this.2.1 h
  refine⟨rfl,fun t ht=> ?_,fun t ht=> ?_,?_,fun t ht=>by have:=I.b1 t ht;rw[FF x S t this.2,if_neg this.1]⟩
  · rw[FF x S t (hd t (.inl ht))]
    split
    · rw[AV.vw_vw]
    · rfl
  · rw[FF x S t (hd t (.inr ht)),if_neg (fun h=>I.ts t h ht)]
  · have hk:=I.kd
    show y.ef.agr (x.ef.ap S.hp) S.hp
    cases hx:x.ef<;>cases hy:y.ef<;>rw[hx,hy] at hk<;>simp only[Kh,Bool.false_eq_true] at hk<;>simp[Ef.agr,Ef.ap]
    all_goals first
      |(rw[CH,if_neg];rintro ⟨e1,e2, -⟩;simp[e1,e2] at hk;done)
      |(refine⟨?_,(Gr _ _ _ _).symm⟩;rw[CH,if_neg];rintro ⟨e1,e2, -⟩;simp[e1,e2] at hk;done)
      |(rw[CH,if_neg];rintro ⟨e1,e2, -⟩;simp[←e1, ←e2] at hk;done)
      |(refine⟨?_,(Gr _ _ _ _).symm⟩;rw[CH,if_neg];rintro ⟨e1,e2, -⟩;simp[←e1, ←e2] at hk;done)
theorem jZ {ops:Array Oper} {x y:Fsk} (I:Ind ops x y) (S:St) (hy:∀k cn,y.ef=.al k cn→∀lv q,x.ef=.ld lv q→¬(lv=0∧q=k)):x.agr ops S (y.ap S):=by
  have hd:∀t,t∈x.o.looksAt ops∨t∈x.ts→y.o.dst≠some t:=fun t ht e=>by
    have:=I.yx t e
    rcases ht with h|h
    · exact this.1 h
    · exact this.2 h
  refine⟨rfl,fun t ht=> ?_,fun t ht=> ?_,?_,fun t ht=>by have:=I.b2 t ht;rw[FF y S t this.2,if_neg this.1]⟩
  · rw[FF y S t (hd t (.inl ht))]
    split
    · rw[AV.vw_vw]
    · rfl
  · rw[FF y S t (hd t (.inr ht)),if_neg (fun h=>I.ts t ht h)]
  · have hk:=I.kd
    show x.ef.agr S.hp (y.ef.ap S.hp)
    cases hx:x.ef<;>cases hy2:y.ef<;>rw[hx,hy2] at hk<;>simp only[Kh,Bool.false_eq_true] at hk<;>simp[Ef.agr,Ef.ap]
    all_goals first
      |(rw[CH,if_neg];rintro ⟨e1,e2, -⟩;simp[e1,e2] at hk;done)
      |(refine⟨?_,Gr _ _ _ _⟩;rw[CH,if_neg];rintro ⟨e1,e2, -⟩;simp[e1,e2] at hk;done)
      |(rw[CH,if_neg];rintro ⟨e1,e2, -⟩;simp[←e1, ←e2] at hk;done)
      |(refine⟨?_,Gr _ _ _ _⟩;rw[CH,if_neg];rintro ⟨e1,e2, -⟩;simp[←e1, ←e2] at hk;done)
      |(rw[CH,if_neg];rintro ⟨rfl,rfl, -⟩;exact hy _ _ hy2 _ _ hx ⟨rfl,rfl⟩)
theorem Zz {ops:Array Oper} {x y:Fsk} (I:Ind ops x y) (S:St):x.ap (y.ap S)=y.ap (x.ap S):=by
  have htm:(x.ap (y.ap S)).tm=(y.ap (x.ap S)).tm:=by
    funext t
    by_cases hx:x.o.dst=some t
    · have hy:y.o.dst≠some t:=(I.xy t hx).2.2
      have h1:(x.ap (y.ap S)).tm t=x.r:=by
        show B0 _ x.o.dst x.r t=_
        rw[hx];exact Au _ _ _
      rw[h1,FF y _ t hy,if_neg (I.xy t hx).2.1]
      show x.r=B0 _ x.o.dst x.r t
      rw[hx];exact(Au _ _ _).symm
    · by_cases hy:y.o.dst=some t
      · have h1:(y.ap (x.ap S)).tm t=y.r:=by
          show B0 _ y.o.dst y.r t=_
          rw[hy];exact Au _ _ _
        rw[h1,FF x _ t hx,if_neg (I.yx t hy).2]
        show B0 _ y.o.dst y.r t=_
        rw[hy];exact Au _ _ _
      · rw[FF x _ t hx,FF y _ t hy,FF y _ t hy,FF x _ t hx]
        by_cases h1:t∈x.ts
        · by_cases h2:t∈y.ts
          · exact absurd h2 (I.ts t h1)
          · simp only[if_pos h1,if_neg h2]
        · simp only[if_neg h1]
  have hhp:(x.ap (y.ap S)).hp=(y.ap (x.ap S)).hp:=by
    have hk:=I.kd
    show x.ef.ap (y.ef.ap S.hp)=y.ef.ap (x.ef.ap S.hp)
    cases hx:x.ef<;>cases hy:y.ef<;>rw[hx,hy] at hk<;>simp only[Kh,Bool.false_eq_true] at hk<;>first|rfl|exact JQ _ _ _ _ _ _ (fun q=>by simp[q.1,q.2] at hk)|exact Kl _ _ _ _ _ _ _ (fun q=>by simp[q.1,q.2] at hk)|exact(JQ _ _ _ _ _ _ (fun q=>by simp[q.1,q.2] at hk)).symm
  show(⟨_,_,_⟩:St)=⟨_,_,_⟩
  congr 1
def Pth (c:Cx) (ops:Array Oper):List Fsk→St→St→Prop
  |[],S,S'=>S=S'
  |f::l,S,S'=>(f.valid c ops S∧(∀lv q,f.ef=.ld lv q→hpg S.hp lv q≠none)∧(∀k cn,f.ef=.al k cn→hpg S.hp 0 k=none))∧Pth c ops l (f.ap S) S'
theorem Pth.front {c:Cx} {ops:Array Oper} {y:Fsk} {l:List Fsk}:∀(xs:List Fsk) (S S':St),Pth c ops (xs++y::l) S S'→(∀x∈xs,Ind ops x y)→
    (y.valid c ops S∧(∀lv q,y.ef=.ld lv q→hpg S.hp lv q≠none)∧(∀k cn,y.ef=.al k cn→hpg S.hp 0 k=none))∧Pth c ops (xs++l) (y.ap S) S'
  |[],S,S',h,_=>h
  |x::xs,S,S',h,hI=>by
    obtain⟨⟨h1,h2,h3⟩,h4⟩:=h
    obtain⟨⟨k1,k2,k3⟩,k4⟩:=Pth.front xs (x.ap S) S' h4 (fun z hz=>hI z (by simp[hz]))
    have I:=hI x (by simp)
    have e1:=jY I S
    have hkd:=I.kd
    have q2:∀lv q,y.ef=.ld lv q→hpg S.hp lv q≠none:=fun lv q hy=>by
      have h0:=k2 lv q hy
      have h5:=e1.hp
      rw[hy] at h5
      simp only[Ef.agr] at h5
      rw[h5];exact h0
    have q3:∀k cn,y.ef=.al k cn→hpg S.hp 0 k=none:=fun k cn hy=>by
      have h0:=k3 k cn hy
      have h5:=e1.hp
      rw[hy] at h5
      simp only[Ef.agr] at h5
      rw[h5.1];exact h0
    have hne:∀k cn,y.ef=.al k cn→∀lv q,x.ef=.ld lv q→¬(lv=0∧q=k):=fun k cn hy lv q hx ⟨e2,e3⟩=>by
      subst e2;subst e3
      exact h2 _ _ hx (q3 _ _ hy)
    have e2:=jZ I S hne
    refine⟨⟨k1.agr e1,q2,q3⟩,⟨h1.agr e2,fun lv q hx=> ?_,fun k cn hx=> ?_⟩,?_⟩
    · have h5:=e2.hp
      rw[hx] at h5
      simp only[Ef.agr] at h5
      rw[h5];exact h2 lv q hx
    · have h5:=e2.hp
      rw[hx] at h5
      simp only[Ef.agr] at h5
      rw[h5.1];exact h3 k cn hx
    · show Pth c ops (xs++l) (x.ap (y.ap S)) S'
      rw[Zz I]
      exact k4
def M0 (ops:Array Oper):Nat→Nat→Nat→Bool
  |0,_,_=>false
  |n+1,a,i=>match ops[a]? with
    |none=>false
    |some o=>o.after.toList.any fun e=>Region.binds .any e && (e.on==i||M0 ops n e.on i)
def R5 (ops:Array Oper) (fs:List Fsk):Bool:=
  (fs.length == ops.size) && ((List.range ops.size).all fun i => match ops[i]? with
    |none=>false
    |some o=>o.after.toList.all fun e=> !Region.binds .any e||decide (e.on<i)) &&
  ((List.range ops.size).all fun j => (List.range j).all fun i => M0 ops ops.size j i || match fs[i]?, fs[j]? with
    |some x,some y=>VC ops x y
    |_,_=>false)
instance:Inhabited Fsk:=⟨⟨default,[],.un,.val⟩⟩
structure fT (ops:Array Oper) (listed:Array Bool) (L:List Nat):Prop where
 size:listed.size=ops.size
 lt:∀i∈L,i<ops.size
 mem:∀i,i<ops.size→(listed.getD i true=false↔i∈L)
 srt:L.Pairwise (· < ·)
 cl:∀i,i<ops.size→i∉L→∀o,ops[i]? =some o→∀e∈o.after,Region.binds .any e=true→e.on∉L
theorem Vy {ops:Array Oper} {listed:Array Bool} {L:List Nat} (I:fT ops listed L) (hb:∀i o,ops[i]? =some o→∀e∈o.after,Region.binds .any e=true→e.on<i):∀(n a x:Nat),a<ops.size→a∉L→M0 ops n a x=true→x∉L
 |0,_,_,_,_,h=>by simp[M0] at h
 |n+1,a,x,ha,hL,h=>by
  simp only[M0] at h
  cases ho:ops[a]? with
  |none=>rw[ho] at h;cases h
  |some o=>
   rw[ho] at h
   simp only[List.any_eq_true,Bool.and_eq_true,Bool.or_eq_true,beq_iff_eq,Array.mem_toList_iff] at h
   obtain⟨e,he,hbd,h⟩:=h
   have hon:=I.cl a ha hL o ho e he hbd
   rcases h with rfl|h
   ·exact hon
   ·exact Vy I hb n e.on x (by have:=hb a o ho e he hbd;omega) hon h
theorem ZD {c:Cx} {ops:Array Oper} {fs:List Fsk} {Sf:St} (hF:∀i o,ops[i]? =some o→(fs.getD i default).o=o) (hb:∀i o,ops[i]? =some o→∀e∈o.after,Region.binds .any e=true→e.on<i)
  (hd:∀j,j<ops.size→∀i,i<j→M0 ops ops.size j i=true∨Ind ops (fs.getD i default) (fs.getD j default)) {Q:Exit→Act→World→Prop}
  {w0:World} {F0:Nat→Nat} {Θ0:Ty} {own0:Who→List Nat} (hQ:∀a w F Θ own,Rel w F Θ own Sf a→Stp w0 F0 Θ0 own0 w F Θ own→Q .normal a w):
  ∀(n:Nat) (L:List Nat) (listed:Array Bool) (S:St) (a:Act) (w:World) (F:Nat→Nat) (Θ:Ty) (own:Who→List Nat),L.length=n→fT ops listed L→Pth c ops (L.map fun i=>fs.getD i default) S Sf→Rel w F Θ own S a→Stp w0 F0 Θ0 own0 w F Θ own→
   wpAny c.P .any ops Q n listed a w:=by
 intro n
 induction n with
 |zero=>
  intro L listed S a w F Θ own hL I hP hR hS
  obtain rfl:=List.length_eq_zero_iff.1 hL
  have e:S=Sf:=hP
  subst e
  refine⟨?_,hQ a w F Θ own hR hS⟩
  refine List.eq_nil_iff_forall_not_mem.2 fun j hj=> ?_
  obtain⟨h1,o,ho, -⟩:=mem_ready.1 hj
  have:=(I.mem j (Array.getElem?_eq_some_iff.1 ho).1).1 h1
  simp at this
 |succ n ih=>
  intro L listed S a w F Θ own hL I hP hR hS
  have rdy:∀j,j∈Region.ready .any ops listed↔j∈L∧∃o,ops[j]? =some o∧∀e∈o.after,Region.binds .any e=true→e.on∉L:=by
   intro j
   rw[mem_ready]
   constructor
   ·rintro ⟨h1,o,ho,h2⟩
    have hj:=(Array.getElem?_eq_some_iff.1 ho).1
    refine⟨(I.mem j hj).1 h1,o,ho,fun e he hbd hm=> ?_⟩
    have h3:=h2 e he hbd
    have hon:e.on<ops.size:=I.lt _ hm
    have h4:=(I.mem e.on hon).2 hm
    have h5:e.on<listed.size:=by rw[I.size];exact hon
    simp[Array.getD_eq_getD_getElem?,h5] at h3 h4
    rw[h3] at h4;cases h4
   ·rintro ⟨h1,o,ho,h2⟩
    have hj:=(Array.getElem?_eq_some_iff.1 ho).1
    refine⟨(I.mem j hj).2 h1,o,ho,fun e he hbd=> ?_⟩
    have hon:e.on<ops.size:=by have:=hb j o ho e he hbd;omega
    have h4:¬listed.getD e.on true=false:=fun q=>h2 e he hbd ((I.mem e.on hon).1 q)
    have h5:e.on<listed.size:=by rw[I.size];exact hon
    simp[Array.getD_eq_getD_getElem?,h5] at h4 ⊢
    exact h4
  refine⟨fun h0=> ?_,fun i hi=> ?_⟩
  ·exfalso
   cases L with
   |nil=>simp at hL
   |cons x l=>
    have hx:=I.lt x (by simp)
    have : x ∈ Region.ready .any ops listed := (rdy x).2 ⟨by simp, ops[x], by simp [hx], fun e he hbd hm => by
     have h1:=hb x ops[x] (by simp[hx]) e he hbd
     rcases List.mem_cons.1 hm with h2|h2
     ·omega
     ·have:=(List.pairwise_cons.1 I.srt).1 _ h2;omega⟩
    rw[h0] at this;simp at this
  ·obtain⟨him,o,ho,hall⟩:=(rdy i).1 hi
   have hilt:=I.lt i him
   obtain⟨xs,l,rfl⟩:=List.append_of_mem him
   have hsrt:=List.pairwise_append.1 I.srt
   have hsrt2:=List.pairwise_cons.1 hsrt.2.1
   have hxi:∀x∈xs,x<i:=fun x hx=>hsrt.2.2 x hx i (by simp)
   have hnd:i∉xs++l:=by
    intro h
    rcases List.mem_append.1 h with h|h
    ·have:=hxi i h;omega
    ·have:=hsrt2.1 i h;omega
   rw[List.map_append,List.map_cons] at hP
   have hInd:∀z∈xs.map (fun i=>fs.getD i default),Ind ops z (fs.getD i default):=by
    intro z hz
    obtain⟨x,hx,rfl⟩:=List.mem_map.1 hz
    rcases hd i hilt x (hxi x hx) with h|h
    ·exfalso
     -- i waits for x:it is not ready
     have:x∉xs++i::l:=by
      cases hs:ops.size with
      |zero=>omega
      |succ m=>
       rw[hs] at h
       simp only[M0,ho] at h
       simp only[List.any_eq_true,Bool.and_eq_true,Bool.or_eq_true,beq_iff_eq,Array.mem_toList_iff] at h
       obtain⟨e,he,hbd,h⟩:=h
       have hon:=hall e he hbd
       rcases h with rfl|h
       ·exact hon
       ·exact Vy I hb m e.on x (by have:=hb i o ho e he hbd;omega) hon h
     exact this (by simp[hx])
    ·exact h
   obtain⟨⟨hv, -⟩,hP'⟩:=Pth.front _ _ _ hP hInd
   have hos:=hv S Fsk.agr.refl
   rw[hF i o ho] at hos
   have hI':fT ops (listed.setIfInBounds i true) (xs++l):=by
    refine⟨by simpa using I.size,fun j hj=>I.lt j (by simp only[List.mem_append,List.mem_cons] at hj ⊢;rcases hj with h|h<;>simp[h]),fun j hj=> ?_,?_,fun j hj hnj o' ho' e he hbd hm=> ?_⟩
    ·by_cases hji:j=i
     ·subst hji
      have:j<listed.size:=by rw[I.size];exact hj
      simp[Array.getD_eq_getD_getElem?,this,hnd] at hnd ⊢
      first|done|exact hnd
     ·have h1:(listed.setIfInBounds i true).getD j true=listed.getD j true:=by
       simp[Array.getD_eq_getD_getElem?,Ne.symm hji]
      rw[h1,I.mem j hj]
      simp[hji]
    ·exact List.pairwise_append.2 ⟨hsrt.1,hsrt2.2,fun x hx y hy=>hsrt.2.2 x hx y (by simp[hy])⟩
    ·have hm':e.on∈xs++i::l:=by simp only[List.mem_append,List.mem_cons] at hm ⊢;rcases hm with h|h<;>simp[h]
     by_cases hji:j=i
     ·subst hji
      rw[ho] at ho'
      cases ho'
      exact hall e he hbd hm'
     ·exact I.cl j hj (by simp only[List.mem_append,List.mem_cons] at hnj ⊢;rintro (h|h|h);exact hnj (.inl h);exact hji h;exact hnj (.inr h)) o' ho' e he hbd hm'
   unfold wpOp
   rw[ho]
   have:=hos w F Θ own a hR (wpAny c.P .any ops Q n (listed.setIfInBounds i true)) Q (fun a' w' F' Θ' own' h1 h2=>ih (xs++l) _ _ a' w' F' Θ' own' (by simp at hL ⊢;omega) hI' (by rw[List.map_append];exact hP') h1 (hS.trans h2))
   simp only
   split
   ·rename_i hw;rw[if_pos hw] at this;exact .inl this
   ·rename_i hw;rw[if_neg hw] at this;exact this
theorem Rel.drew {w:World} {F:Nat→Nat} {Θ:Ty} {own:Who→List Nat} {S:St} {a:Act} (h:Rel w F Θ own S a):Rel w.drew F Θ own S a:=by
 have hT:∀lv q (x:Nat×Sh),Θ lv q=some x→Θ lv q=some x:=fun _ _ _ q=>q
 have kp:∀bs,Kp w F w.drew F bs:=fun _=>⟨fun _ _ _=>rfl,fun _=>Nat.le_refl _,fun _ _=>⟨rfl,rfl⟩⟩
 exact ⟨h.n, h.df, fun t => rv.keep hT _ _ _ (h.tm t) (kp _), h.hn, fun lv q cn hq => by
  obtain⟨b,s,cur,t,h1,h2,h3,h4,h5,h6⟩:=h.hs lv q cn hq
  exact⟨b,s,cur,t,h1,h2,h3,h4,h5,rc.keep hT _ _ _ h6 (kp _)⟩,h.nd,h.dj,h.lt,h.top,h.gl⟩
theorem Stp.of_drew {w w':World} {F F':Nat→Nat} {Θ Θ':Ty} {own own':Who→List Nat} (h:Stp w.drew F Θ own w' F' Θ' own'):Stp w F Θ own w' F' Θ' own':=
 ⟨⟨h.ks.os,h.ks.tape,h.ks.output,h.ks.size,h.ks.cell,h.ks.mono,h.ks.out⟩,h.fr,h.ty⟩
theorem W.draw {c:Cx} {id:Nat} {ops:Array Oper} {S Sf:St} {Q:Exit→St→Prop} (fs:List Fsk) (hP:Pth c ops fs S Sf) (hm:c.P.follows .mixedOrders=true) (ho:fs.map Fsk.o=ops.toList) (hc:R5 ops fs=true) (h:Q .normal Sf):W c (.region id ops true) S Q:=by
 intro w F Θ own a hR
 refine wp_region_any hm ?_
 simp only[R5,Bool.and_eq_true,beq_iff_eq,List.all_eq_true,List.mem_range] at hc
 obtain⟨⟨h1,h2⟩,h3⟩:=hc
 have hlen:=h1
 have hF:∀i o,ops[i]? =some o→(fs.getD i default).o=o:=by
  intro i o hi
  have hi2:(fs.map Fsk.o)[i]? =some o:=by rw[ho];simpa using hi
  rw[List.getElem?_map] at hi2
  cases hq:fs[i]? with
  |none=>rw[hq] at hi2;cases hi2
  |some f=>
   rw[hq] at hi2
   simp only[Option.map_some,Option.some.injEq] at hi2
   rw[List.getD_eq_getElem?_getD,hq];exact hi2
 have hb:∀i o,ops[i]? =some o→∀e∈o.after,Region.binds .any e=true→e.on<i:=by
  intro i o hi e he hbd
  have:=h2 i (Array.getElem?_eq_some_iff.1 hi).1
  rw[hi] at this
  simp only[List.all_eq_true,Array.mem_toList_iff] at this
  have:=this e he
  simpa[hbd] using this
 have hd:∀j,j<ops.size→∀i,i<j→M0 ops ops.size j i=true∨Ind ops (fs.getD i default) (fs.getD j default):=by
  intro j hj i hi
  have:=h3 j hj i hi
  rw[Bool.or_eq_true] at this
  rcases this with q|q
  ·exact .inl q
  ·right
   have e1:fs[i]? =some (fs.getD i default):=by rw[List.getD_eq_getElem?_getD,List.getElem?_eq_getElem (by omega)];rfl
   have e2:fs[j]? =some (fs.getD j default):=by rw[List.getD_eq_getElem?_getD,List.getElem?_eq_getElem (by omega)];rfl
   rw[e1,e2] at q
   exact VB q
 refine ZD (c:=c) (fs:=fs) (Sf:=Sf) hF hb hd (w0:=w) (F0:=F) (Θ0:=Θ) (own0:=own) (fun a' w' F' Θ' own' g1 g2=>⟨Sf,F',Θ',own',h,g1,g2⟩) ops.size (List.range ops.size) _ S a _ F Θ own (by simp) ⟨by simp,fun i hi=>by simpa using hi,fun i hi=>by simp[Array.getD_eq_getD_getElem?,hi],List.pairwise_lt_range,fun i hi hn=>absurd (List.mem_range.2 hi) hn⟩ ?_ hR.drew (Stp.of_drew (Stp.refl _ _ _ _))
 have:((List.range ops.size).map fun i=>fs.getD i default)=fs:=by
  rw[←hlen]
  refine List.ext_getElem (by simp) fun i h1 h2=> ?_
  simp[List.getD_eq_getElem?_getD,List.getElem?_eq_getElem h2]
 rw[this]
 exact hP
