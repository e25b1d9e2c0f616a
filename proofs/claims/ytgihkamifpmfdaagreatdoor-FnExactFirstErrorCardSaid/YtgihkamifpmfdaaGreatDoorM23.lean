/- Part 23. No condition. -/
import Derived.Test.YtgihkamifpmfdaaGreatDoorM19
import Derived.Great.BuildSlice
import Derived.Great.FillDense
import Derived.Laws.BytesArg
import Derived.Laws.StructEq
import Derived.Lib.AppendZeros
import Derived.Lib.ItoaLen
import Derived.Lib.SmallJoins
import Derived.Shelf.Strconv.Itoa3
namespace Go.Proofs.YtgihkamifpmfdaaGreatDoor
open Go.RowKit Go.Shelf Tryz
set_option linter.unusedVariables false
theorem CS.view {P:Program} {f:Nat} {args:List AV} {h h':HP} {r:AV} (k:CS P f args h r h'):CS P f args h r.vw h':=by
 intro w F Θ own vs hR
 refine(k w F Θ own vs hR).mono fun e w' ⟨v,F',own',h1,h2,h3⟩=> ?_
 let own2:Who→List Nat:=fun
  | .t _=>[]
  | .h lv k=>own' (.h lv k)
  | .l lv k=>own' (.l lv k)
 have hsub:∀x b,b∈own2 x→b∈own' x:=fun x b hb=>by
  cases x with
  |t t=>simp[own2] at hb
  |h lv k=>exact hb
  |l lv k=>exact hb
 refine⟨v,F',own2,h1,⟨h2.n,h2.df,fun t=> ?_,fun lv k q=>h2.hn lv k q,fun lv k cn q=>h2.hs lv k cn q,fun x=> ?_,fun x z hxz b hb hz=>h2.dj x z hxz b (hsub x b hb) (hsub z b hz),fun x b hb=>h2.lt x b (hsub x b hb),h2.top,h2.gl⟩,⟨h3.ks,fun x b hb=>h3.fr x b (hsub x b hb),h3.ty⟩⟩
 ·have ht:=h2.tm t
  simp only[Gr] at ht ⊢
  by_cases h0:t=0
  ·rw[if_pos h0] at ht ⊢
   exact rv.view _ _ _ ht
  ·rw[if_neg h0] at ht ⊢
   simp only[rv];rfl
 ·cases x with
  |t t=>exact List.nodup_nil
  |h lv k=>exact h2.nd _
  |l lv k=>exact h2.nd _
theorem CSP.ofFresh {c : Cx} {f : Nat} {args : List DD} {y : DD} {p : List Value → Prop} (hc : ∀ (w : World) (vs : List Value) (F : Nat → Nat), p vs → (∀ b, w.heap.size ≤ b → F b = 0) → Gl w F → vs.length = args.length → (∀ (i : Nat) (d : DD), args[i]? = some d → ∃ cs, rp w F d.vw cs [] ∧ vs[i]? = some (d.mk cs)) →
   Calls c.P f vs.toArray w fun e w'=>∃cs bs,e=.returned (y.mk cs)∧rp w' F y cs bs∧bs.Nodup∧(∀b∈bs,w.heap.size≤b∧b<w'.heap.size)∧Below w.heap.size w w') (h:HP):
  CSP c.P f p (args.map .d) h (.d y) h:=by
 intro w F Θ own vs hpv hR
 have hlen:vs.length=args.length:=by have:=hR.n;simpa[Ck] using this
 refine(hc w vs F hpv hR.top hR.gl hlen (fun i d hd=> ?_)).mono fun e w' ⟨cs,bs,h1,k1,k2,k3,h2⟩=> ?_
 ·have h1:=hR.tm i
  have hi:i<args.length:=(List.getElem?_eq_some_iff.1 hd).1
  have e1:(Ck (args.map AV.d) h).tm i=.d d:=by
   simp only[Ck,List.getD_eq_getElem?_getD,List.getElem?_map,hd,Option.map_some,Option.getD_some]
  rw[e1] at h1
  have h3:=rv.view _ _ _ h1
  simp only[AV.vw,rv] at h3
  obtain⟨cs,h4,h5⟩:=h3
  refine⟨cs,h4,?_⟩
  rw[DD.mk_vw] at h5
  have hi2:i<vs.length:=by omega
  simp only[Array.getD_eq_getD_getElem?,List.getElem?_toArray,List.getElem?_eq_getElem hi2,Option.getD_some] at h5
  rw[List.getElem?_eq_getElem hi2,h5]
 ·have hF:∀b,w.heap.size≤b→F b=0:=hR.top
  have kp:∀bs:List Nat,(∀b∈bs,b<w.heap.size)→Kp w F w' F bs:=fun bs hbs=>by
   refine⟨fun b o ho=> ?_,fun _=>Nat.le_refl _,fun b hb=>⟨h2.block b (hbs b hb),rfl⟩⟩
   have hb:b<w.heap.size:=by
    rcases Nat.lt_or_ge b w.heap.size with q|q
    ·exact q
    ·have:=hF b q;omega
   exact World.cell?_of_block (a:=⟨b,o,none⟩) (h2.block b hb)
  let own':Who→List Nat:=fun
   | .t 0=>bs
   | .t (_+1)=>[]
   | .h lv k=>own (.h lv k)
   | .l lv k=>own (.l lv k)
  have hsub:∀x b,b∈own' x→x=.t 0∧b∈bs∨x≠ .t 0∧b∈own x:=fun x b hb=>by
   cases x with
   |t t=>
    cases t with
    |zero=>exact .inl ⟨rfl,hb⟩
    |succ t=>simp[own'] at hb
   |h lv k=>exact .inr ⟨nofun,hb⟩
   |l lv k=>exact .inr ⟨nofun,hb⟩
  refine⟨y.mk cs,F,own',h1,⟨rfl,rfl,fun t=> ?_,fun lv k q=> ?_,fun lv k cn q=> ?_,fun x=> ?_,fun x z hxz b hb hz=> ?_,fun x b hb=> ?_,fun b hb=>hF b (Nat.le_trans h2.size hb),fun p hp=>⟨(hR.gl p hp).1,((kp [] (by simp)).cell _ _ (hR.gl p hp).1).trans (hR.gl p hp).2⟩⟩,⟨⟨h2.os,h2.tape,h2.output,h2.size,fun b o ho=>(kp [] (by simp)).cell b o ho,fun _=>Nat.le_refl _,fun b hb _=>⟨h2.block b hb,rfl⟩⟩,fun x b hb=> ?_,fun _ _=>rfl⟩⟩
  ·cases t with
   |zero=>
    show rv w' F Θ (if (0:Nat)=0 then AV.d y else .un) _ _
    rw[if_pos rfl]
    simp only[rv]
    exact⟨cs,k1,rfl⟩
   |succ t=>
    show rv w' F Θ (if t+1=0 then AV.d y else .un) _ _
    rw[if_neg (by omega)]
    simp only[rv];rfl
  ·exact hR.hn lv k q
  ·obtain⟨b,s,cur,ty,g1,g2,g3,g4,g5,g6⟩:=hR.hs lv k cn q
   have hb:b<w.heap.size:=hR.lt _ b (by rw[g2];simp)
   exact⟨b,s,cur,ty,g1,g2,g3,g4,(h2.block b hb).trans g5,rc.keep (fun _ _ _ e=>e) _ _ _ g6 (kp _ fun x hx=>hR.lt _ x hx)⟩
  ·cases x with
   |t t=>
    cases t with
    |zero=>exact k2
    |succ t=>exact List.nodup_nil
   |h lv k=>exact hR.nd _
   |l lv k=>exact hR.nd _
  ·rcases hsub x b hb with ⟨rfl,q⟩|⟨n,q⟩<;>rcases hsub z b hz with ⟨rfl,p⟩|⟨m,p⟩
   ·exact hxz rfl
   ·have:=(k3 b q).1;have:=hR.lt _ b p;omega
   ·have:=(k3 b p).1;have:=hR.lt _ b q;omega
   ·exact hR.dj x z hxz b q p
  ·rcases hsub x b hb with ⟨rfl,q⟩|⟨n,q⟩
   ·exact(k3 b q).2
   ·exact Nat.lt_of_lt_of_le (hR.lt x b q) h2.size
  ·rcases hsub x b hb with ⟨rfl,q⟩|⟨n,q⟩
   ·exact .inr (k3 b q).1
   ·exact .inl ⟨x,q⟩
def Xz (w w':World) (W:Nat) (e:Ending):Prop:=Below w.heap.size w w'∧(e=.returned (.slice none 0 0)∨∃cur t cap,e=.returned (.slice (some ⟨w.heap.size,0,none⟩) 0 cap)∧w'.heap[w.heap.size]? =some (.cells cur t (0,0))∧cap*W≤cur.size∧cap≤maxLen)
theorem PR (w:World) (o:Obj):Below w.heap.size w (w.drew.alloc o):=by
 refine⟨rfl,rfl,rfl,?_,?_⟩
 ·show w.heap.size≤(w.heap.push o).size
  simp
 ·intro b hb
  show(w.heap.push o)[b]? =_
  rw[Array.getElem?_push_lt hb,Array.getElem?_eq_getElem hb]
set_option maxRecDepth 100000 in
set_option maxHeartbeats 1000000 in
theorem fo (n:Nat) (hn:n≤1073741824) (w:World):Calls prog 447 #[.slice none 0 0,.int .i64 (n:Int)] w fun e w'=>Xz w w' 1 e:=by
 obtain⟨i0,hi,hz0,hz1,hz2⟩:=info_parts (P:=prog) (e:=9) (by kernel_rfl:_=some (some (Value.string ⟨#[]⟩),1,16))
 go_enter func447,Tryz.ntmps447
 by_cases h0:n=0
 ·subst h0
  go_wp2
  go_ret
  exact⟨Below.refl _ _,.inl rfl⟩
 ·have hr:=Lib.run_append_nil_zeros (P:=prog) w 39 3 39 9 i0 (Value.string ⟨#[]⟩) .i64 .i64 underlying39 underlying3 hi hz0 n (by omega) (by rw[hz1];omega) (by omega) (by rw[hz2];omega)
  have hc1:=grownCap_ge w n 0 9
  have hc2:=grownCap_le_maxLen w n 0 9 (by unfold maxLen;omega)
  generalize hcp:grownCap w n 0 9=cap at hr hc1 hc2
  have hsz:(Builtin.zeroCells (Value.string ⟨#[]⟩).cells n++Builtin.zeroCells (Value.string ⟨#[]⟩).cells (cap - n)).size=cap*1:=by
   rw[Array.size_append,size_zeroCells,size_zeroCells]
   have:(Value.string ⟨#[]⟩).cells.size=1:=by first|rfl|simp[Value.cells]
   rw[this];omega
  generalize Builtin.zeroCells (Value.string ⟨#[]⟩).cells n++Builtin.zeroCells (Value.string ⟨#[]⟩).cells (cap - n)=arr at hr hsz
  have h1:(0:Int)<n:=by omega
  go_wp2_with (at_builtin;refine Lib.wpList_append_run _ rfl _ _ _ _ rfl _ _ rfl rfl _ _ hr ?_)
  go_ret
  refine⟨PR _ _,.inr ⟨arr,9,cap,rfl,?_,by omega,hc2⟩⟩
  exact heap_alloc_new w.drew (.cells arr 9)
set_option maxRecDepth 100000 in
set_option maxHeartbeats 1000000 in
def Ir (vs:List Value):Prop:=vs[0]? =some (.slice none 0 0)
theorem bP {f:Nat} (s:Sh) (hp:0<s.w) (n:Nat) (hg:∀w,Calls cx.P f #[.slice none 0 0,.int .i64 (n:Int)] w fun e w'=>Xz w w' s.w e) (h:HP):CSP cx.P f Ir [.d (.sl true s []),dI' n] h (.d (.sl true s [])) h:=by
 refine CSP.ofFresh (c:=cx) (args:=[.sl true s [],.lf (.int .i64 (n:Int))]) (fun w vs F hpv hF _ hl hv=> ?_) h
 obtain⟨c1,h1,e1⟩:=hv 1 _ rfl
 simp only[DD.vw,rp] at h1
 obtain⟨rfl, -, -⟩:=h1
 match vs,hl,hpv,e1 with
 |[u,v],_,hpv,e1=>
  have hu:u=.slice none 0 0:=by unfold Ir at hpv;simpa using hpv
  have hvv:v=.int .i64 (n:Int):=by simpa[DD.mk] using e1
  subst hu;subst hvv
  refine(hg w).mono fun e w' ⟨hB,k⟩=> ?_
  rcases k with rfl|⟨cur,t,cap,rfl,k1,k2,k3⟩
  ·refine⟨[.slice none 0 0],[],rfl,?_,List.nodup_nil,by simp,hB⟩
   simp only[rp]
   exact⟨by simp,hp,none,0,rfl,Nat.le_refl _,by unfold maxLen;omega,fun _=>rfl,.inl ⟨trivial,trivial,fun _=>rfl⟩⟩
  ·have hlt:w.heap.size<w'.heap.size:=(Array.getElem?_eq_some_iff.1 k1).1
   refine⟨[.slice (some ⟨w.heap.size,0,none⟩) 0 cap],[w.heap.size],rfl,?_,by simp,by simpa using hlt,hB⟩
   have hF0:=hF w.heap.size (Nat.le_refl _)
   simp only[rp]
   refine⟨by simp,hp,some ⟨w.heap.size,0,none⟩,cap,rfl,Nat.zero_le _,k3,nofun,.inr ⟨w.heap.size,0,[],rfl,by simp[rpE],by simp[hF0],.inr ⟨trivial,rfl,rfl,by simp[hF0],cur,t,k1,k2⟩⟩⟩
theorem bQ (n:Nat) (hn:n≤1073741824) (h:HP):CSP cx.P 447 Ir [.d (.sl true .one []),dI' n] h (.d (.sl true .one [])) h:=bP .one (by decide) n (fo n hn) h
def fG:Ren:=⟨fun|171=>45|243=>112|246=>177|283=>257|284=>258|285=>259|286=>260|317=>341|129=>342|318=>343|319=>344|320=>345|337=>402|338=>403|n=>n,fun|0=>0|2=>2|3=>3|4=>4|5=>5|9=>9|20=>20|37=>68|46=>384|51=>382|53=>306|171=>305|173=>309|212=>381|213=>383|232=>434|233=>435|n=>n,fun|17=>1|18=>2|19=>3|n=>n⟩
theorem ZQ:Go.Proofs.LaysM.n171 prog fG:={
 mixed:=by kernel_rfl
 f129:=func342.trans (congrArg some (by kernel_rfl))
 f171:=func45.trans (congrArg some (by kernel_rfl))
 f243:=func112.trans (congrArg some (by kernel_rfl))
 f246:=func177.trans (congrArg some (by kernel_rfl))
 f283:=func257.trans (congrArg some (by kernel_rfl))
 f284:=func258.trans (congrArg some (by kernel_rfl))
 f285:=func259.trans (congrArg some (by kernel_rfl))
 f286:=func260.trans (congrArg some (by kernel_rfl))
 f317:=func341.trans (congrArg some (by kernel_rfl))
 f318:=func343.trans (congrArg some (by kernel_rfl))
 f319:=func344.trans (congrArg some (by kernel_rfl))
 f320:=func345.trans (congrArg some (by kernel_rfl))
 f337:=func402.trans (congrArg some (by kernel_rfl))
 f338:=func403.trans (congrArg some (by kernel_rfl))
 t0:=underlying0
 a0:=Tryz.isAgg0
 z0:=Tryz.sizeOf0
 v0:=Tryz.zeroValue0
 t2:=underlying2
 a2:=Tryz.isAgg2
 z2:=Tryz.sizeOf2
 v2:=Tryz.zeroValue2
 t3:=underlying3
 a3:=Tryz.isAgg3
 z3:=Tryz.sizeOf3
 v3:=Tryz.zeroValue3
 t4:=underlying4
 a4:=Tryz.isAgg4
 z4:=Tryz.sizeOf4
 v4:=Tryz.zeroValue4
 t5:=underlying5
 a5:=Tryz.isAgg5
 z5:=Tryz.sizeOf5
 v5:=Tryz.zeroValue5
 t9:=underlying9
 a9:=Tryz.isAgg9
 z9:=Tryz.sizeOf9
 v9:=Tryz.zeroValue9
 t20:=underlying20
 a20:=Tryz.isAgg20
 z20:=Tryz.sizeOf20
 v20:=Tryz.zeroValue20
 t37:=underlying68
 a37:=Tryz.isAgg68
 z37:=Tryz.sizeOf68
 v37:=Tryz.zeroValue68
 t46:=underlying384
 a46:=Tryz.isAgg384
 z46:=Tryz.sizeOf384
 v46:=Tryz.zeroValue384
 t51:=underlying382
 a51:=Tryz.isAgg382
 z51:=Tryz.sizeOf382
 v51:=Tryz.zeroValue382
 t53:=underlying306
 a53:=Tryz.isAgg306
 z53:=Tryz.sizeOf306
 v53:=Tryz.zeroValue306
 t171:=underlying305
 a171:=Tryz.isAgg305
 z171:=Tryz.sizeOf305
 v171:=Tryz.zeroValue305
 t173:=underlying309
 a173:=Tryz.isAgg309
 z173:=Tryz.sizeOf309
 v173:=Tryz.zeroValue309
 t212:=underlying381
 a212:=Tryz.isAgg381
 z212:=Tryz.sizeOf381
 v212:=Tryz.zeroValue381
 t213:=underlying383
 a213:=Tryz.isAgg383
 z213:=Tryz.sizeOf383
 t232:=underlying434
 a232:=Tryz.isAgg434
 z232:=Tryz.sizeOf434
 v232:=Tryz.zeroValue434
 t233:=underlying435
 a233:=Tryz.isAgg435
 z233:=Tryz.sizeOf435
 v233:=Tryz.zeroValue435
 g17:=by kernel_rfl
 g18:=by kernel_rfl
 g19:=by kernel_rfl
 i0:=by kernel_rfl
 i2:=by kernel_rfl
 i3:=by kernel_rfl
 i4:=by kernel_rfl
 i5:=by kernel_rfl
 i9:=by kernel_rfl
 i20:=by kernel_rfl
 i37:=by kernel_rfl
 i46:=by kernel_rfl
 i51:=by kernel_rfl
 i53:=by kernel_rfl
 i171:=by kernel_rfl
 i173:=by kernel_rfl
 i212:=by kernel_rfl
 i232:=by kernel_rfl
 i233:=by kernel_rfl
 m17:=by kernel_rfl
 m18:=by kernel_rfl
 m19:=by kernel_rfl }
open Go.RowKit in
theorem fF (n:Int) (h0: -9223372036854775808≤n) (h1:n≤9223372036854775807) (w:World) (htab:Lib.TabIs prog w "internal/strconv.uint64pow10" .u64 Lib.pow10Tab):
  Calls prog 45 #[.int .i64 n] w fun e w'=>e=.returned (.string ⟨(Lib.itoa n).toArray⟩)∧∃k os,w'=Sort.grow (w.drewN k) os:=Any.strconv_Itoa ZQ n h0 h1 w htab
def Fn (k:Nat) (out:List UInt8):List UInt8:=
 if h:k=0 then out else Fn (k/10) (UInt8.ofNat (48+k % 10)::out)
 termination_by k
 decreasing_by omega
theorem I1 (o:List UInt8):Fn 0 o=o:=by rw[Fn];simp
theorem HH {k:Nat} (h:0<k) (o:List UInt8):Fn k o=Fn (k/10) (UInt8.ofNat (48+k % 10)::o):=by
 rw[Fn,dif_neg (by omega)]
theorem OI (k:Nat):∀(o:List UInt8),0<k→Fn k o=Lib.decDigits k++o:=by
 induction k using Nat.strongRecOn with
 |ind k ih=>
  intro o hk
  rw[HH hk]
  by_cases h:k<10
  ·have h0:k/10=0:=by omega
   have h1:k % 10=k:=by omega
   rw[h0,I1,h1]
   rw[Lib.decDigits,dif_pos h]
   rfl
  ·rw[ih (k/10) (by omega) _ (by omega)]
   conv=>rhs;rw[Lib.decDigits,dif_neg h]
   simp
def CN (n:Int):BA':=⟨(Lib.itoa n).toArray⟩
theorem T8 {k:Nat} (h:0<k):CN (k:Int)=⟨(Fn k []).toArray⟩:=by
 unfold CN Lib.itoa
 rw[if_neg (by omega),OI k [] h]
 simp
theorem T9 {k:Nat} (h:0<k):CN (-(k:Int))=⟨(45::Fn k []).toArray⟩:=by
 unfold CN Lib.itoa
 rw[if_pos (by omega),OI k [] h]
 simp
theorem PB:CN 0=⟨#[48]⟩:=by
 unfold CN Lib.itoa
 rw[if_neg (by omega),Lib.decDigits,dif_pos (by decide)]
 rfl
theorem GE (x:Int) (o:List UInt8):strOfNums [x]++(⟨o.toArray⟩:BA')=⟨(UInt8.ofNat x.toNat::o).toArray⟩:=by
 apply ByteArray.ext
 simp[strOfNums,ByteArray.data_append]
theorem ZM (o:List UInt8):(⟨#[45]⟩:BA')++⟨o.toArray⟩=⟨(45::o).toArray⟩:=by
 apply ByteArray.ext
 simp[ByteArray.data_append]
theorem JN {m n:Nat} {x:UInt8} {q:List UInt8} (h:m*10 ^ q.length≤n):m/10*10 ^ (x::q).length≤n:=by
 have h3:m/10*10≤m:=by omega
 have h4:m/10*10 ^ (x::q).length=m/10*10*10 ^ q.length:=by rw[List.length_cons,Nat.pow_succ,Nat.mul_assoc,Nat.mul_comm (10 ^ q.length) 10]
 rw[h4]
 exact Nat.le_trans (Nat.mul_le_mul_right _ h3) h
theorem Jd {m n:Nat} {x:UInt8} {q:List UInt8} (h:m*10 ^ q.length≤n) (h1:0<m) (hn:n≤9223372036854775808) (hq:q.length≤19):(x::q).length≤19:=by
 simp only[List.length_cons]
 rcases Nat.lt_or_ge q.length 19 with h4|h4
 ·omega
 ·exfalso
  have h5:10 ^ 19≤10 ^ q.length:=Nat.pow_le_pow_right (by decide) h4
  have h6:1*10 ^ q.length≤m*10 ^ q.length:=Nat.mul_le_mul_right _ h1
  omega
set_option maxRecDepth 100000 in
set_option maxHeartbeats 1000000 in
theorem Gm (n:Nat) (h0:0<n) (hn:n≤9223372036854775807):∀(w:World),
  Calls prog 14 #[.int .i64 (n:Int)] w fun e w'=>e=.returned (.string (CN (n:Int)))∧Below w.heap.size w w':=by
 intro w
 rw[T8 h0]
 go_enter func14,Tryz.ntmps14
 go_wp2
 have Hg:Hid (Fn n []=Fn n []):=rfl
 go_loopw [0,4] (fun t o wr=>∃(m:Nat) (q:List UInt8),t=.int .i64 m∧o=.string ⟨q.toArray⟩∧Hid (Fn m q=Fn n [])∧m≤n∧Hid (m*10 ^ q.length≤n)∧q.length≤19∧Below w.heap.size w wr) (fun t _ _=>(intOf t).toNat)
 case atStart=>exact⟨n,[],rfl,rfl,Hg,Nat.le_refl _,by show n*10 ^ 0≤n;omega,by simp,Below.refl _ _⟩
 case round=>
  clear Hg
  obtain⟨m,q,rfl,rfl,Hs,hm,Hp,hq,hB⟩:=hrel
  by_cases h1:0<m
  ·have kc:=fun (W:World) (b:Nat) (h:W.cell? ⟨b,0,none⟩=some (.int .u8 (48+(m:Int) % 10)))=>run_convert_bytes_arg (P:=prog) W 68 5 underlying68 underlying5 b 0 1 1 [48+(m:Int) % 10] rfl (fun i hi=>by obtain rfl:i=0:=(by omega);simpa using h) 9 underlying9
   have hm1:(m:Int)≤9223372036854775807:=by omega
   have hx:UInt8.ofNat (48+(m:Int) % 10).toNat=UInt8.ofNat (48+m % 10):=by congr 1
   have hz:(strOfNums [48+(m:Int) % 10]).size=1:=strOfNums_size _
   go_wp2
   go_roundw
   case rel=>
    refine⟨m/10,UInt8.ofNat (48+m % 10)::q,by go_num,?_,?_,by omega,?_,?_,hB.alloc hB.size _⟩
    ·rw[GE,hx]
    ·show _=_
     rw[←HH h1]
     exact Hs.out
    ·exact JN Hp.out
    ·exact Jd Hp.out h1 (by omega) hq
   case measure=>simp[intOf];omega
  ·obtain rfl:m=0:=by omega
   have e:=Hs.out
   rw[I1] at e
   have E:=Lib.hid e
   clear e
   go_wp2
   go_ret
   refine⟨?_,hB⟩
   rw[E.out]
   rfl
set_option maxRecDepth 100000 in
set_option maxHeartbeats 1000000 in
theorem Gn (n:Nat) (h0:0<n) (hn:n≤9223372036854775808):∀(w:World),
  Calls prog 14 #[.int .i64 (-(n:Int))] w fun e w'=>e=.returned (.string (CN (-(n:Int))))∧Below w.heap.size w w':=by
 intro w
 rw[T9 h0]
 have hn0: -(n:Int)<0:=by omega
 have hn1:¬(-(n:Int)=0):=by omega
 go_enter func14,Tryz.ntmps14
 go_wp2
 have Hg:Hid (Fn n []=Fn n []):=rfl
 go_loopw [0,4] (fun t o wr=>∃(m:Nat) (q:List UInt8),t=.int .i64 (-(m:Int))∧o=.string ⟨q.toArray⟩∧Hid (Fn m q=Fn n [])∧m≤n∧Hid (m*10 ^ q.length≤n)∧q.length≤19∧Below w.heap.size w wr) (fun t _ _=>(-(intOf t)).toNat)
 case atStart=>exact⟨n,[],rfl,rfl,Hg,Nat.le_refl _,by show n*10 ^ 0≤n;omega,by simp,Below.refl _ _⟩
 case round=>
  clear Hg
  obtain⟨m,q,rfl,rfl,Hs,hm,Hp,hq,hB⟩:=hrel
  by_cases h1:0<m
  ·have hm1:(m:Int)≤9223372036854775808:=by omega
   have hd:(-(m:Int)).tdiv 10= -((m:Int)/10):=by rw[Int.neg_tdiv,Int.tdiv_eq_ediv_of_nonneg (by omega)]
   by_cases h2:m % 10=0
   ·have kc:=fun (W:World) (b:Nat) (h:W.cell? ⟨b,0,none⟩=some (.int .u8 48))=>run_convert_bytes_arg (P:=prog) W 68 5 underlying68 underlying5 b 0 1 1 [48] rfl (fun i hi=>by obtain rfl:i=0:=(by omega);simpa using h) 9 underlying9
    have hx:UInt8.ofNat (48:Int).toNat=UInt8.ofNat (48+m % 10):=by rw[h2];rfl
    have hz:(strOfNums [48]).size=1:=strOfNums_size _
    have hr:(-(m:Int)).tmod 10=0:=by rw[Int.neg_tmod,Int.tmod_eq_emod_of_nonneg (by omega)];omega
    have Hx:=Lib.hid hx
    clear hx h2
    go_wp2
    go_roundw
    case rel=>
     refine⟨m/10,UInt8.ofNat (48+m % 10)::q,congrArg (Value.int .i64) (by omega),?_,?_,by omega,?_,?_,hB.alloc hB.size _⟩
     ·rw[GE,Hx.out]
     ·show _=_
      rw[←HH h1]
      exact Hs.out
     ·exact JN Hp.out
     ·exact Jd Hp.out h1 (by omega) hq
    case measure=>simp[intOf];omega
   ·have kc:=fun (W:World) (b:Nat) (h:W.cell? ⟨b,0,none⟩=some (.int .u8 (48+(m:Int) % 10)))=>run_convert_bytes_arg (P:=prog) W 68 5 underlying68 underlying5 b 0 1 1 [48+(m:Int) % 10] rfl (fun i hi=>by obtain rfl:i=0:=(by omega);simpa using h) 9 underlying9
    have hx:UInt8.ofNat (48+(m:Int) % 10).toNat=UInt8.ofNat (48+m % 10):=by congr 1
    have hz:(strOfNums [48+(m:Int) % 10]).size=1:=strOfNums_size _
    have hr:(-(m:Int)).tmod 10= -((m:Int) % 10):=by rw[Int.neg_tmod,Int.tmod_eq_emod_of_nonneg (by omega)]
    have hl: -((m:Int) % 10)<0:=by omega
    go_wp2
    go_roundw
    case rel=>
     refine⟨m/10,UInt8.ofNat (48+m % 10)::q,congrArg (Value.int .i64) (by omega),?_,?_,by omega,?_,?_,hB.alloc hB.size _⟩
     ·rw[GE,hx]
     ·show _=_
      rw[←HH h1]
      exact Hs.out
     ·exact JN Hp.out
     ·exact Jd Hp.out h1 (by omega) hq
    case measure=>simp[intOf];omega
  ·obtain rfl:m=0:=by omega
   have e:=Hs.out
   rw[I1] at e
   have E:=Lib.hid e
   clear e
   go_wp2
   go_ret
   refine⟨?_,hB⟩
   rw[ZM,E.out]
   rfl
theorem IP (n:Int) (hn:InR n):∀(w:World),
  Calls prog 14 #[.int .i64 n] w fun e w'=>e=.returned (.string (CN n))∧Below w.heap.size w w':=by
 have h1:=hn.lo
 have h2:=hn.hi
 rcases(show n<0∨n=0∨0<n by omega) with h|h|h
 ·obtain⟨k,hk⟩:=Int.eq_ofNat_of_zero_le (show 0≤ -n by omega)
  obtain rfl:n= -(k:Int):=by omega
  exact Gn k (by omega) (by omega)
 ·subst h
  intro w
  rw[PB]
  go_enter func14,Tryz.ntmps14
  go_wp2
  go_ret
  exact⟨rfl,Below.refl _ _⟩
 ·obtain⟨k,rfl⟩:=Int.eq_ofNat_of_zero_le (Int.le_of_lt h)
  exact Gm k (by omega) (by omega)
theorem W3 {i:Nat} (h:i<20):(1,i,some (.int .u64 ((10 ^ i:Nat):Int)))∈glb:=by
 unfold glb
 exact List.mem_append_left _ (List.mem_map.2 ⟨i,by simpa using h,rfl⟩)
theorem dg {w:World} {F:Nat→Nat} (h:Gl w F):Lib.TabIs prog w "internal/strconv.uint64pow10" .u64 Lib.pow10Tab:=by
 have h20:=(h (1,20,none) (by simp[glb])).2
 have h0:=(h _ (W3 (i:=0) (by omega))).2
 have hg:prog.globalNamed "internal/strconv.uint64pow10" =some 1:=by kernel_rfl
 unfold Lib.TabIs World.var?
 rw[hg]
 simp only[Option.bind_some]
 cases hc:w.heap[1]? with
 |none=>simp only[World.cell?,hc] at h0;cases h0
 |some ob=>
  cases ob with
  |cells cs t n=>
   show some cs=_
   congr 1
   have hall:∀i,i<20→cs[i]? =some (.int .u64 ((10 ^ i:Nat):Int)):=fun i hi=>by
    have:=(h _ (W3 hi)).2
    simp only[World.cell?,hc] at this
    split at this
    ·cases this
    ·exact this
   have hs:cs.size≤20:=by
    simp only[World.cell?,hc] at h20
    split at h20
    ·rename_i hq;simp at hq
    ·simpa using h20
   have hs2:cs.size=20:=by
    have:=(Array.getElem?_eq_some_iff.1 (hall 19 (by omega))).1
    omega
   have hz:(Lib.pow10Tab.map fun z=>Value.int .u64 z).toArray.size=20:=by simp[Lib.pow10Tab]
   apply Array.ext
   ·exact hs2.trans hz.symm
   ·intro i h1 h2
    have:=hall i (by omega)
    rw[Array.getElem?_eq_getElem h1] at this
    simp only[Option.some.injEq] at this
    rw[this]
    simp[Lib.pow10Tab]
  |_=>simp only[World.cell?,hc] at h0;cases h0
theorem ka {w:World} (h:Lib.TabIs prog w "internal/strconv.uint64pow10" .u64 Lib.pow10Tab):Gl w (Fz w):=by
 have hg:prog.globalNamed "internal/strconv.uint64pow10" =some 1:=by kernel_rfl
 unfold Lib.TabIs World.var? at h
 rw[hg] at h
 simp only[Option.bind_some] at h
 split at h
 ·rename_i cs _ _ hc
  simp only[Option.some.injEq] at h
  have hs:cs.size=20:=by rw[h];simp[Lib.pow10Tab]
  have hF:Fz w 1=21:=by unfold Fz;rw[hc];simp[hs]
  intro p hp
  unfold glb at hp
  rcases List.mem_append.1 hp with q|q
  ·obtain⟨i,hi,rfl⟩:=List.mem_map.1 q
   have hi2:i<20:=by simpa using hi
   refine⟨by show i<Fz w 1;omega,?_⟩
   show w.cell? ⟨1,i,none⟩=some _
   unfold World.cell?
   rw[hc,h]
   simp[Lib.pow10Tab,hi2]
  ·simp only[List.mem_singleton] at q
   subst q
   refine⟨by show 20<Fz w 1;omega,?_⟩
   show w.cell? ⟨1,20,none⟩=none
   unfold World.cell?
   rw[hc]
   simp[hs]
 ·cases h
theorem PH (w:World) (k:Nat) (os:Array Obj):Below w.heap.size w (Sort.grow (w.drewN k) os):=by
 refine⟨rfl,rfl,rfl,?_,?_⟩
 ·show w.heap.size≤(w.heap++os).size
  simp
 ·intro b hb
  show(w.heap++os)[b]? =_
  rw[Array.getElem?_append_left hb]
theorem IW (n:Int) (hn:InR n):∀(w:World) (_:Lib.TabIs prog w "internal/strconv.uint64pow10" .u64 Lib.pow10Tab),
  Calls prog 21 #[.int .i64 n] w fun e w'=>e=.returned (.string (CN n))∧Below w.heap.size w w':=by
 intro w ht
 go_enter func21,Tryz.ntmps21
 go_wp2_with fail
 refine(fF n hn.lo hn.hi w ht).mono ?_
 rintro e w' ⟨rfl,k,os,rfl⟩
 go_wp2
 go_ret
 exact⟨rfl,PH _ _ _⟩
theorem Hq (n:Int) (h: -9223372036854775808≤n∧n≤9223372036854775807):(CN n).size≤21:=by
 have:=Lib.itoa_length_le n h.1 h.2
 simpa[CN,ByteArray.size] using this
theorem RV (n:Int) (hn:InR n) (w:World) (F:Nat→Nat):rp w F (.lf (.string (CN n))) [.string (CN n)] []∧DD.mk (.lf (.string (CN n))) [.string (CN n)]=.string (CN n):=by
 have h1:=Hq n hn
 refine⟨?_,rfl⟩
 simp only[rp,BK]
 exact⟨trivial,by unfold maxLen;omega,trivial⟩
theorem Yv (n:Int) (hn:InR n) (h:HP):CS cx.P 14 [dI' n] h (dS' (CN n)) h:=by
 refine CS.ofVal (c:=cx) (args:=[.lf (.int .i64 n)]) (v:=.string (CN n)) (fun w F=>RV n hn w F) (fun w vs ⟨F,hF,hgl,hl,hv⟩=> ?_) h
 obtain⟨c0,h0,e0⟩:=hv 0 _ rfl
 simp only[DD.vw,rp] at h0
 obtain⟨rfl, -, -⟩:=h0
 match vs,hl,e0 with
 |[u],_,e0=>
  simp[DD.mk] at e0
  subst e0
  exact IP n hn w
theorem Zf (n:Int) (hn:InR n) (h:HP):CS cx.P 21 [dI' n] h (dS' (CN n)) h:=by
 refine CS.ofVal (c:=cx) (args:=[.lf (.int .i64 n)]) (v:=.string (CN n)) (fun w F=>RV n hn w F) (fun w vs ⟨F,hF,hgl,hl,hv⟩=> ?_) h
 obtain⟨c0,h0,e0⟩:=hv 0 _ rfl
 simp only[DD.vw,rp] at h0
 obtain⟨rfl, -, -⟩:=h0
 match vs,hl,e0 with
 |[u],_,e0=>
  simp[DD.mk] at e0
  subst e0
  exact IW n hn w (dg hgl)
theorem Z5 (x y:Operand) (a b c d:Int) (w:World):(do eqGuard .eql 49 x y (.agg #[.int .i64 a,.int .i64 b]) (.agg #[.int .i64 c,.int .i64 d]);binOp .eql 49 (.agg #[.int .i64 a,.int .i64 b]) (.agg #[.int .i64 c,.int .i64 d]):Sem Value).run prog w=.ok (.bool (decide (a=c) && decide (b=d))) w:=by
 have h1:prog.eqGuardType prog.depth 49=false:=by kernel_rfl
 have h2:prog.stoodInHeld 49=false:=by kernel_rfl
 have h3:prog.underlying 49=some (.struct (prog.fieldsOf 49)):=by kernel_rfl
 have h4:(prog.fieldsOf 49).toList.map (fun f=>(f.name== "_",f.type,f.offset))=[(false,3,0),(false,3,1)]:=by kernel_rfl
 have h5:prog.underlying 3=some (.int .i64):=by kernel_rfl
 simp only[Sem.run_bind,run_eqGuard_agg w .eql _ x y _ _ h1,Result.andThen_ok,run_eql_struct]
 rw[run_equalIn_struct w 9999 _ _ _ h3 h2]
 generalize (prog.fieldsOf 49).toList=fs at h4
 have hl:fs.length=2:=by simpa using congrArg List.length h4
 obtain⟨f,g,rfl⟩:∃f g,fs=[f,g]:=by
  cases fs with
  |nil=>simp at hl
  |cons f fs=>cases fs with
   |nil=>simp at hl
   |cons g fs=>exact⟨f,g,by simp at hl;rw[hl]⟩
 simp only[List.map_cons,List.map_nil,List.cons.injEq,Prod.mk.injEq,and_true,beq_eq_false_iff_ne,ne_eq] at h4
 obtain⟨⟨n1,t1,o1⟩,n2,t2,o2⟩:=h4
 have hp:∀(i:Nat) (cs:Array Value) (v:Value),cs[i]? =some v→(part 3 cs i).run prog w=.ok v w:=fun i cs v hv=>by
  unfold part
  simp[isAgg,run_underlying h5,hv]
 have he:∀u v:Int,(Op.equalIn 9999 3 (.int .i64 u) (.int .i64 v)).run prog w=.ok (u==v) w:=fun u v=>run_equalIn_int w 9998 _ _ _ u v h5
 simp only[Op.eqFields,n1,n2,t1,t2,o1,o2,not_false_eq_true,if_true,Sem.run_bind,hp 0 #[.int .i64 a,.int .i64 b] (.int .i64 a) rfl,hp 0 #[.int .i64 c,.int .i64 d] (.int .i64 c) rfl,hp 1 #[.int .i64 a,.int .i64 b] (.int .i64 b) rfl,hp 1 #[.int .i64 c,.int .i64 d] (.int .i64 d) rfl,Result.andThen_ok,he,Sem.run_ite,Sem.run_pure,ne_eq]
 by_cases e1:a=c<;>by_cases e2:b=d<;>simp[e1,e2]
section
variable {ops:Array Oper} {o:Oper} {l:List Oper} {S:St} {K:St→Prop} {acc:List Sk} {n k s t:Nat} {f:Nat→AV} {hp:HP}
theorem Ya {yT:Nat} {x y:Operand} {a b c d:Int} (hd:∀k,o.dst=some k→k<S.n) (ho:o.op=.binOp .eql 49 x y yT) (hx:evT cx 0 S x=.d (.st [.lf (.int .i64 a),.lf (.int .i64 b)])) (hy:evT cx 0 S y=.d (.st [.lf (.int .i64 c),.lf (.int .i64 d)])) (ox:okO cx 0 x) (oy:okO cx 0 y):Snd cx o S ⟨S.n,B1 S.tm o.dst (dB' (decide (a=c) && decide (b=d))),S.hp⟩:=by
 intro w F Θ own ac hR
 have two:∀(z:Operand) (u v:Int),okO cx 0 z→evT cx 0 S z=.d (.st [.lf (.int .i64 u),.lf (.int .i64 v)])→ac.eval z=.agg #[.int .i64 u,.int .i64 v]:=fun z u v oz hz=>by
  have h:=BU (T:=0) hR oz
  rw[hz] at h
  simp only[rv] at h
  obtain⟨cs,h1,h2⟩:=h
  simp only[rp,rpS] at h1
  obtain⟨c1,c2,b1,b2,rfl, -,⟨rfl, -, -⟩,c3,c4,b3,b4,rfl, -,⟨rfl, -, -⟩,rfl, -⟩:=h1
  exact h2
 have e1:=two x a b ox hx
 have e2:=two y c d oy hy
 have hrun:(execOp ac.eval o).run cx.P w=.ok (.value (.bool (decide (a=c) && decide (b=d)))) w:=by
  have:=Z5 x y a b c d w
  unfold execOp
  simp only[ho,e1,e2]
  show((do eqGuard .eql 49 x y (.agg #[.int .i64 a,.int .i64 b]) (.agg #[.int .i64 c,.int .i64 d]);binOp .eql 49 (.agg #[.int .i64 a,.int .i64 b]) (.agg #[.int .i64 c,.int .i64 d]):Sem Value)>>=fun v=>pure (Next.value v)).run prog w=_
  rw[Sem.run_bind,this];rfl
 obtain⟨own',g1,g2⟩:=hR.pure o.dst hd [] List.nodup_nil (.d (.lf (.bool (decide (a=c) && decide (b=d))))) _ (Dr trivial)
 exact⟨_,w,F,Θ,own',.inl hrun,g1,g2⟩
theorem XrD {yT:Nat} {a b c d:Int} (kk:DL cx ops (acc++[⟨[],.val⟩]) l ⟨n,upn f k (dB' (decide (a=c) && decide (b=d))),hp⟩ K) (ho:o.op=.binOp .eql 49 (.tmp s) (.tmp t) yT:=by rfl) (hx:f s=.d (.st [.lf (.int .i64 a),.lf (.int .i64 b)]):=by rfl) (hy:f t=.d (.st [.lf (.int .i64 c),.lf (.int .i64 d)]):=by rfl) (hd:o.dst=some k:=by rfl) (hg:o.guard=none:=by rfl) (hk:Nat.ble (k+1) n=true:=by rfl):DL cx ops acc (o::l) ⟨n,f,hp⟩ K:=by
 have hk:=B8 hk
 refine DL.cons (⟨o,[],.d (.lf (.bool (decide (a=c) && decide (b=d)))),.val⟩:Fsk) rfl (fun S' h=> ?_) (fun _ _ q=>by cases q) (fun _ _ q=>by cases q) (by show(⟨n,B1 f o.dst _,hp⟩:St)=_;rw[hd,B0];rfl) kk
 have h1:evT cx 0 S' (.tmp s)=.d (.st [.lf (.int .i64 a),.lf (.int .i64 b)]):=(I0 (fun u e=>h.rd u (DK (by rw[ho, ←e];simp[Op.operands]))) 0).trans (by simp only[evT,hx,AV.vw,DD.vw,DD.vws])
 have h2:evT cx 0 S' (.tmp t)=.d (.st [.lf (.int .i64 c),.lf (.int .i64 d)]):=(I0 (fun u e=>h.rd u (DK (by rw[ho, ←e];simp[Op.operands]))) 0).trans (by simp only[evT,hy,AV.vw,DD.vw,DD.vws])
 exact OS.op ((GR h.rd).trans (by unfold wnt;rw[hg])) (Ya (by rw[h.n];exact fun q hq=>by rw[hd] at hq;cases hq;exact hk) ho h1 h2 trivial trivial)
end
