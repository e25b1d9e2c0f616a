/- Part 46. No condition. -/
import Derived.Test.YtgihkamifpmfdaaGreatDoorM43
import Derived.Test.YtgihkamifpmfdaaGreatDoorM45
namespace Go.Proofs.YtgihkamifpmfdaaGreatDoor
open Go.RowKit Tryz
set_option linter.unusedVariables false
set_option maxRecDepth 10000
set_option linter.unusedSimpArgs false
set_option maxHeartbeats 4000000
instance (priority:=2000) om (k m p q:Int) (l:List A7) (r:List Nat):Ct cx 336 [.d (.st [.lf (.int .i64 (k)),.lf (.int .i64 (m)),.st [.lf (.int .i64 (p)),.lf (.int .i64 (q))],.sl false Bd ((l).map (A7.dd false))]),.d (.sl false .one ((r).map (dN)))] (A7.wd (⟨k,m,⟨p,q⟩,l⟩:A7)∧r.length≤134217728) (.d (((apS (⟨k,m,⟨p,q⟩,l⟩:A7) (r.map fun (x:Nat)=>(x:Int)))).dd true)):=⟨fk1 func336,fun hp h=>by have q:=(kZ k m p q l (r.map fun (x:Nat)=>(x:Int))).cs ⟨hp.1,by simpa using hp.2⟩ h;have e:(r.map fun (x:Nat)=>(x:Int)).map dI=r.map dN:=(by rw[List.map_map];rfl);rw[e] at q;exact q⟩
instance (priority:=2000) iApN0 (k m p q:Int) (r:List Nat):Ct cx 336 [.d (.st [.lf (.int .i64 (k)),.lf (.int .i64 (m)),.st [.lf (.int .i64 (p)),.lf (.int .i64 (q))],.sl false Bd []]),.d (.sl false .one ((r).map (dN)))] (A7.wd ⟨k,m,⟨p,q⟩,[]⟩∧r.length≤134217728) (.d (((apS ⟨k,m,⟨p,q⟩,[]⟩ (r.map fun (x:Nat)=>(x:Int)))).dd true)):=⟨fk1 func336,fun hp h=>(om k m p q [] r).cs hp h⟩
instance (priority:=2000) iApS0 (k m p q:Int) (r:List Int):Ct cx 336 [.d (.st [.lf (.int .i64 (k)),.lf (.int .i64 (m)),.st [.lf (.int .i64 (p)),.lf (.int .i64 (q))],.sl false Bd []]),.d (.sl false .one ((r).map (dI)))] (A7.wd ⟨k,m,⟨p,q⟩,[]⟩∧r.length≤134217728) (.d (((apS ⟨k,m,⟨p,q⟩,[]⟩ r)).dd true)):=⟨fk1 func336,fun hp h=>(kZ k m p q [] r).cs hp h⟩
