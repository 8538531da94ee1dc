/- Parts of the proof that are used by the claim: FFacts, FIs, FAsFacts, FAsFacts2, FAsFacts3, FAsFacts4, FAs, FAs4. No condition is added here. -/
import Derived.Test.YtlcngapphloafaaGreatDoorPk2
import Derived.Test.YtlcngapphloafaaGreatDoorChecked
import Derived.LaidEql
import Derived.Stop.Asserts
import Derived.RowKitTokens
namespace Go.Proofs.YtlcngapphloafaaGreatDoor
section
open Go Go.RowKit Go.Extern.Stop Go.Stop Go.Extern
theorem noIsF(v:Value)(xT:TypeId)(w:World):(Instr.typeAssert (.iface 208 v) xT 307 true).run Tryz.prog w=.ok (.tuple #[.nilIface,.bool false]) w:=run_typeAssert_lacksB Tryz.underlying307 (by kernel_rfl) (by kernel_rfl) v xT w
theorem noIsE(v:Value)(xT:TypeId)(w:World):(Instr.typeAssert (.iface 31 v) xT 307 true).run Tryz.prog w=.ok (.tuple #[.nilIface,.bool false]) w:=run_typeAssert_lacksB Tryz.underlying307 (by kernel_rfl) (by kernel_rfl) v xT w
theorem noUnE(v:Value)(xT:TypeId)(w:World):(Instr.typeAssert (.iface 31 v) xT 220 true).run Tryz.prog w=.ok (.tuple #[.nilIface,.bool false]) w:=run_typeAssert_lacksB Tryz.underlying220 (by kernel_rfl) (by kernel_rfl) v xT w
theorem noUsE(v:Value)(xT:TypeId)(w:World):(Instr.typeAssert (.iface 31 v) xT 222 true).run Tryz.prog w=.ok (.tuple #[.nilIface,.bool false]) w:=run_typeAssert_lacksB Tryz.underlying222 (by kernel_rfl) (by kernel_rfl) v xT w
theorem hasUnF(v:Value)(xT:TypeId)(w:World):(Instr.typeAssert (.iface 208 v) xT 220 true).run Tryz.prog w=.ok (.tuple #[.iface 208 v,.bool true]) w:=run_typeAssert_hasB Tryz.underlying220 (by kernel_rfl) v xT w
end
section
set_option maxHeartbeats 1000000
open Go Go.RowKit Go.Extern.Stop Go.Stop Go.Extern
theorem compErrno:(Tryz.prog.info? 31).map (·.comparable)=some true:=by kernel_rfl
theorem methUnF(v:Value)(w:World):(Go.method 474 208 v "Unwrap").run Tryz.prog w=.ok (248,v) w:=by kernel_rfl
theorem eqErrno(c x:Int)(w:World):(binOp .eql 65 (.iface 31 (.int .i64 c)) (.iface 31 (.int .i64 x))).run Tryz.prog w=.ok (.bool (c==x)) w:=by
 obtain⟨i,hi,hcmp⟩:=Option.map_eq_some_iff.1 compErrno;have h:∀d:Nat,(Op.equalIn (d+2) 65 (.iface 31 (.int .i64 c)) (.iface 31 (.int .i64 x))).run Tryz.prog w=.ok (c==x) w:=fun d=>by
  simp[Op.equalIn,run_underlying Tryz.underlying65,run_underlying Tryz.underlying31,typeInfo,hi,hcmp]
 simp only[binOp];simp[Op.equal,Op.maxDepth,h 9998]
noncomputable def errLen(core:Value)(w:World)(v:Value):Nat:=Classical.epsilon fun n=>∃l,IsErr w v l core∧l.length=n
theorem IsErr.same{w:World}{t:TypeId}{u:Value}(ht:t≠208):∀{l l':List (ByteArray×Int)} {v:Value},IsErr w v l (.iface t u)→IsErr w v l' (.iface t u)→l.length=l'.length
 |[],[],_,_,_=>rfl
 |[],_::_,_,h,⟨b,inner,hv,_,_⟩=>by
  rw[show _=Value.iface t u from h] at hv;injection hv with h1 _;exact absurd h1 ht
 |_::_,[],_,⟨b,inner,hv,_,_⟩,h=>by
  rw[show _=Value.iface t u from h] at hv;injection hv with h1 _;exact absurd h1 ht
 |_::_,_::_,_,⟨b,inner,hv,hc,hi⟩,⟨b',inner',hv',hc',hi'⟩=>by
  rw[hv] at hv';injection hv' with _ h2;injection h2 with h3;injection h3 with h4;injection h4 with h5;subst h5;rw[hc] at hc';injection hc' with h6;injection h6 with h7;simp at h7;obtain⟨_,_,rfl⟩:=h7;simp[IsErr.same ht hi hi']
theorem errLen_eq{w:World}{t:TypeId}{u:Value}(ht:t≠208){l:List (ByteArray×Int)}{v:Value}(h:IsErr w v l (.iface t u)):errLen (.iface t u) w v=l.length:=by
 obtain⟨l',h1,h2⟩:=Classical.epsilon_spec (p:=fun n=>∃l,IsErr w v l (.iface t u)∧l.length=n) ⟨_,l,h,rfl⟩
 show Classical.epsilon _=_
 rw[←h2];exact IsErr.same ht h1 h
theorem is_calls(l:List (ByteArray×Int))(v:Value)(c x:Int)(w:World)(h:IsErr w v l (.iface 31 (.int .i64 c))) :
  Calls Tryz.prog 157 #[v,.iface 31 (.int .i64 x),.bool true] w fun e w'=>e=.returned (.bool (c==x))∧w'=w:=by
 have nF:=noIsF;have nE:=noIsE;have uE:=noUnE;have sE:=noUsE;have hF:=hasUnF;have eE:=eqErrno c x;have hne:=fun (p:Value) (q:Value) (wx:World)=>run_eql_iface_types (P:=Tryz.prog) 208 31 p q Tryz.underlying65 (by decide) wx
 have mU:=methUnF;have Hh:=Lib.hid h;clear h;go_enter Tryz.func157,Tryz.ntmps157;go_wp2
 go_loopw [0] (fun err wr=>wr=w∧∃l,IsErr w err l (.iface 31 (.int .i64 c))) (fun err _=>errLen (.iface 31 (.int .i64 c)) w err)
 case atStart=>exact⟨rfl,l,Hh.out⟩
 case round =>
  obtain⟨rfl,l',h⟩:=hrel
  cases l' with
  |nil =>
   obtain rfl:=h;clear hne
   by_cases hcx:(c==x)=true
   ·go_wp2
    go_ret;exact⟨congrArg (fun x=>Ending.returned (Value.bool x)) hcx.symm,rfl⟩
   ·have hcx':(c==x)=false:=by simpa using hcx
    clear hcx;go_wp2;go_ret;exact⟨congrArg (fun x=>Ending.returned (Value.bool x)) hcx'.symm,rfl⟩
  |cons s l' =>
   obtain⟨b,inner,rfl,hc,hi⟩:=h;obtain⟨it,iu,rfl⟩:=hi.iface;have h2:wr.cell? ⟨b,2,none⟩=some (.iface it iu):=by simp[World.cell?,hc]
   have m0:=errLen_eq (by decide) (show IsErr wr (.iface 208 (.pointer (some ⟨b,0,none⟩))) (s::l') (.iface 31 (.int .i64 c)) from ⟨b,_,rfl,hc,hi⟩);have m1:=errLen_eq (by decide) hi;have Hm:Hid (errLen (.iface 31 (.int .i64 c)) wr (.iface it iu)<errLen (.iface 31 (.int .i64 c)) wr (.iface 208 (.pointer (some ⟨b,0,none⟩)))):=by
    unfold Hid;rw[m0,m1];exact Nat.lt_succ_self _
   have Hi:=Lib.hid hi;clear m0 m1 hc hi;go_wp2;go_roundw
   case rel=>exact⟨trivial,l',Hi.out⟩
   case measure=>exact Hm.out
theorem typeOfE(v:Value)(w:World):(Extern.ReflectliteType.typeOf #[.iface 31 v]).run Tryz.prog w=.ok (.iface 212 (.agg #[.pointer (some ⟨3,31,none⟩)])) w:=by kernel_rfl
def compEntry:Array Value→Sem Value:=Extern.ReflectliteType.method fun t=>do Extern.Rtype.noPackHeld "Comparable" t;pure (.bool (←typeInfo t).comparable)
theorem compE(w:World):(compEntry #[.agg #[.pointer (some ⟨3,31,none⟩)]]).run Tryz.prog w=.ok (.bool true) w:=by kernel_rfl
theorem methComp(v:Value)(w:World):(Go.method 474 212 v "Comparable").run Tryz.prog w=.ok (251,v) w:=by kernel_rfl
theorem Is_calls(l:List (ByteArray×Int))(v:Value)(c x:Int)(w:World)(h:IsErr w v l (.iface 31 (.int .i64 c))) :
  Calls Tryz.prog 121 #[v,.iface 31 (.int .i64 x)] w fun e w'=>e=.returned (.bool (c==x))∧w'=w:=by
 have h8:=@run_callFunc_extern Tryz.prog 103 _ Extern.ReflectliteType.typeOf Tryz.func103 (by kernel_rfl) (by kernel_rfl) (by kernel_rfl) (by kernel_rfl);have h32:=@run_callFunc_extern Tryz.prog 251 _ compEntry Tryz.func251 (by kernel_rfl) (by kernel_rfl) (by kernel_rfl) (by kernel_rfl);have tT:=typeOfE;have cT:=compE;have mR:=methComp;have H1:=Lib.hid (is_calls l v c x w h);obtain⟨t,u,rfl⟩:=h.iface;clear h;go_enter Tryz.func121,Tryz.ntmps121
 go_wp2_with (first | (go_at_call 157;refine(H1.out).mono ?_;rintro e wn ⟨rfl,rfl⟩))
 go_ret;exact⟨rfl,rfl⟩
end
section
open Go Go.RowKit Go.Extern.Stop Go.Stop Go.Extern
abbrev hnd(t:TypeId):Value:=.pointer (some ⟨3,t,none⟩)
theorem noAsF(v:Value)(xT:TypeId)(w:World):(Instr.typeAssert (.iface 208 v) xT 217 true).run Tryz.prog w=.ok (.tuple #[.nilIface,.bool false]) w:=run_typeAssert_lacksB Tryz.underlying217 (by kernel_rfl) (by kernel_rfl) v xT w
theorem methKind(h:Value)(w:World):(Go.method 474 212 (.agg #[h]) "Kind").run Tryz.prog w=.ok (236,h) w:=by kernel_rfl
theorem methElem(h:Value)(w:World):(Go.method 474 212 (.agg #[h]) "Elem").run Tryz.prog w=.ok (252,.agg #[h]) w:=by kernel_rfl
theorem methImpl(h:Value)(w:World):(Go.method 474 212 (.agg #[h]) "Implements").run Tryz.prog w=.ok (253,.agg #[h]) w:=by kernel_rfl
theorem methAssign(h:Value)(w:World):(Go.method 474 212 (.agg #[h]) "AssignableTo").run Tryz.prog w=.ok (250,.agg #[h]) w:=by kernel_rfl
theorem typeOfF(v:Value)(w:World):(ReflectliteType.typeOf #[.iface 208 v]).run Tryz.prog w=.ok (.iface 212 (.agg #[hnd 208])) w:=by kernel_rfl
def zJI:Array Value→Sem Value:=ReflectliteType.relation "AssignableTo" ReflectliteType.assignableTo
theorem asgFF(w:World):(zJI #[.agg #[hnd 208],.iface 212 (.agg #[hnd 208])]).run Tryz.prog w=.ok (.bool true) w:=by kernel_rfl
theorem asgFE(w:World):(zJI #[.agg #[hnd 208],.iface 212 (.agg #[hnd 31])]).run Tryz.prog w=.ok (.bool false) w:=by kernel_rfl
theorem asgEE(w:World):(zJI #[.agg #[hnd 31],.iface 212 (.agg #[hnd 31])]).run Tryz.prog w=.ok (.bool true) w:=by kernel_rfl
end
section
open Go Go.RowKit Go.Extern.Stop Go.Stop Go.Extern
theorem valOfE(t:Addr)(w:World):(ReflectliteValue.unpack (.iface 79 (.pointer (some t)))).run Tryz.prog w=.ok (.agg #[hnd 79,.pointer (some ⟨w.heap.size,0,none⟩),.int .u64 150]) (w.alloc (.cells #[.pointer (some t)] 79)):=by kernel_rfl
theorem typE(a:Addr)(w:World):(ReflectliteValue.methodAny (ReflectliteValue.valueError "reflectlite.Value.Type" 0) (fun t _ _ _=>ReflectliteType.toType t) #[.agg #[hnd 79,.pointer (some a),.int .u64 150]]).run Tryz.prog w=.ok (.iface 212 (.agg #[hnd 79])) w:=by kernel_rfl
theorem kindTE(w:World):((ReflectliteType.abiMethod fun t=>(fun a:Nat=>Value.int IntKind.u8 (a:Int)) <$> Rtype.kind t) #[hnd 79]).run Tryz.prog w=.ok (.int .u8 22) w:=by kernel_rfl
theorem kindEE(w:World):((ReflectliteType.abiMethod fun t=>(fun a:Nat=>Value.int IntKind.u8 (a:Int)) <$> Rtype.kind t) #[hnd 31]).run Tryz.prog w=.ok (.int .u8 2) w:=by kernel_rfl
theorem elemE(w:World):(ReflectliteType.method ReflectliteType.elem #[.agg #[hnd 79]]).run Tryz.prog w=.ok (.iface 212 (.agg #[hnd 31])) w:=by kernel_rfl
theorem implE(w:World):(ReflectliteType.relation "Implements" ReflectliteType.implements_ #[.agg #[hnd 31],.iface 212 (.agg #[hnd 65])]).run Tryz.prog w=.ok (.bool true) w:=by kernel_rfl
theorem partsE(a:Addr)(w:World):(ReflectliteValue.parts (.agg #[hnd 79,.pointer (some a),.int .u64 150])).run Tryz.prog w=.ok (some (79,a,150)) w:=by kernel_rfl
theorem valOfF(t:Addr)(w:World):(ReflectliteValue.unpack (.iface 270 (.pointer (some t)))).run Tryz.prog w=.ok (.agg #[hnd 270,.pointer (some ⟨w.heap.size,0,none⟩),.int .u64 150]) (w.alloc (.cells #[.pointer (some t)] 270)):=by kernel_rfl
theorem typF(a:Addr)(w:World):(ReflectliteValue.methodAny (ReflectliteValue.valueError "reflectlite.Value.Type" 0) (fun t _ _ _=>ReflectliteType.toType t) #[.agg #[hnd 270,.pointer (some a),.int .u64 150]]).run Tryz.prog w=.ok (.iface 212 (.agg #[hnd 270])) w:=by kernel_rfl
theorem kindTF(w:World):((ReflectliteType.abiMethod fun t=>(fun a:Nat=>Value.int IntKind.u8 (a:Int)) <$> Rtype.kind t) #[hnd 270]).run Tryz.prog w=.ok (.int .u8 22) w:=by kernel_rfl
theorem kindEF(w:World):((ReflectliteType.abiMethod fun t=>(fun a:Nat=>Value.int IntKind.u8 (a:Int)) <$> Rtype.kind t) #[hnd 208]).run Tryz.prog w=.ok (.int .u8 22) w:=by kernel_rfl
theorem elemF(w:World):(ReflectliteType.method ReflectliteType.elem #[.agg #[hnd 270]]).run Tryz.prog w=.ok (.iface 212 (.agg #[hnd 208])) w:=by kernel_rfl
theorem implF(w:World):(ReflectliteType.relation "Implements" ReflectliteType.implements_ #[.agg #[hnd 208],.iface 212 (.agg #[hnd 65])]).run Tryz.prog w=.ok (.bool true) w:=by kernel_rfl
theorem partsF(a:Addr)(w:World):(ReflectliteValue.parts (.agg #[hnd 270,.pointer (some a),.int .u64 150])).run Tryz.prog w=.ok (some (270,a,150)) w:=by kernel_rfl
end
section
open Go Go.RowKit Go.Extern.Stop Go.Stop Go.Extern
theorem rlm(z:Sem Value)(f:TypeId→Addr→Nat→Nat→Sem Value)(v:Value) :
  ReflectliteValue.method z f #[v]=(do match ←ReflectliteValue.parts v with | none=>z | some (t,a,fl)=>f t a fl (fl%32)):=rfl
theorem isNilE(a p:Addr)(W:World)(ha:W.cell? a=some (.pointer (some p))) :
  (ReflectliteValue.method (ReflectliteValue.valueError "reflectlite.Value.IsNil" 0) ReflectliteValue.isNil #[.agg #[hnd 79,.pointer (some a),.int .u64 150]]).run Tryz.prog W=.ok (.bool false) W:=by
 rw[rlm];simp only[Sem.run_bind,partsE,Result.andThen];simp[ReflectliteValue.isNil,loadVar,isAgg,underlying,Tryz.underlying79,ha,Result.andThen]
theorem elemOfE(w:World):(Rtype.elem? 79).run Tryz.prog w=.ok (some 31) w:=by kernel_rfl
theorem mkE(p:Addr)(w:World):(ReflectliteValue.mk 31 p ReflectliteValue.flagAddr).run Tryz.prog w=.ok (.agg #[hnd 31,.pointer (some p),.int .u64 386]) w:=by kernel_rfl
theorem elemVE(a p:Addr)(W:World)(ha:W.cell? a=some (.pointer (some p))) :
  (ReflectliteValue.method (ReflectliteValue.valueError "reflectlite.Value.Elem" 0) ReflectliteValue.elem #[.agg #[hnd 79,.pointer (some a),.int .u64 150]]).run Tryz.prog W=.ok (.agg #[hnd 31,.pointer (some p),.int .u64 386]) W:=by
 rw[rlm];simp only[Sem.run_bind,partsE,Result.andThen];simp[ReflectliteValue.elem,loadVar,isAgg,underlying,Tryz.underlying79,ha,Result.andThen,elemOfE,mkE]
theorem isNilF(a p:Addr)(W:World)(ha:W.cell? a=some (.pointer (some p))) :
  (ReflectliteValue.method (ReflectliteValue.valueError "reflectlite.Value.IsNil" 0) ReflectliteValue.isNil #[.agg #[hnd 270,.pointer (some a),.int .u64 150]]).run Tryz.prog W=.ok (.bool false) W:=by
 rw[rlm];simp only[Sem.run_bind,partsF,Result.andThen];simp[ReflectliteValue.isNil,loadVar,isAgg,underlying,Tryz.underlying270,ha,Result.andThen]
theorem elemOfF(w:World):(Rtype.elem? 270).run Tryz.prog w=.ok (some 208) w:=by kernel_rfl
theorem mkF(p:Addr)(w:World):(ReflectliteValue.mk 208 p ReflectliteValue.flagAddr).run Tryz.prog w=.ok (.agg #[hnd 208,.pointer (some p),.int .u64 406]) w:=by kernel_rfl
theorem elemVF(a p:Addr)(W:World)(ha:W.cell? a=some (.pointer (some p))) :
  (ReflectliteValue.method (ReflectliteValue.valueError "reflectlite.Value.Elem" 0) ReflectliteValue.elem #[.agg #[hnd 270,.pointer (some a),.int .u64 150]]).run Tryz.prog W=.ok (.agg #[hnd 208,.pointer (some p),.int .u64 406]) W:=by
 rw[rlm];simp only[Sem.run_bind,partsF,Result.andThen];simp[ReflectliteValue.elem,loadVar,isAgg,underlying,Tryz.underlying270,ha,Result.andThen,elemOfF,mkF]
end
section
open Go Go.RowKit Go.Extern.Stop Go.Stop Go.Extern
theorem rls(v x:Value):ReflectliteValue.set #[v,x]=(do
  let (some (dst,a,fl),some (src,b,_)):=(←ReflectliteValue.parts v,←ReflectliteValue.parts x)
   |unsupported (.noEntry "extern/(internal/reflectlite.Value).Set.zeroValue")
  if fl / ReflectliteValue.flagAddr%2==0 then unsupported (.noEntry "extern/(internal/reflectlite.Value).Set.unaddressable")
  let val ←loadVar src b
  if ←Rtype.directlyAssignable dst src then storeVar dst a val
  else if ←Rtype.implements dst src then
   if (←Rtype.kind src)==20 then
    match val with
    |.nilIface=>unsupported (.noEntry "extern/reflectlite: a nil value of one interface type handed on as a value of another")
    |_=>storeVar dst a val
   else storeVar dst a (.iface src val)
  else panicString ("reflectlite.Set: value of type " ++ (←Rtype.spelt src) ++ " is not assignable to type " ++ (←Rtype.spelt dst))
  pure (.tuple #[])):=rfl
theorem valElE(c:Int)(w:World):(ReflectliteValue.unpack (.iface 31 (.int .i64 c))).run Tryz.prog w=.ok (.agg #[hnd 31,.pointer (some ⟨w.heap.size,0,none⟩),.int .u64 130]) (w.alloc (.cells #[.int .i64 c] 31)):=by kernel_rfl
theorem partsAE(a:Addr)(w:World):(ReflectliteValue.parts (.agg #[hnd 31,.pointer (some a),.int .u64 386])).run Tryz.prog w=.ok (some (31,a,386)) w:=by kernel_rfl
theorem partsVE(a:Addr)(w:World):(ReflectliteValue.parts (.agg #[hnd 31,.pointer (some a),.int .u64 130])).run Tryz.prog w=.ok (some (31,a,130)) w:=by kernel_rfl
theorem directE(w:World):(Rtype.directlyAssignable 31 31).run Tryz.prog w=.ok true w:=by kernel_rfl
theorem setE(ta b:Addr)(c:Int)(old:Value)(W:World)(hb:W.cell? b=some (.int .i64 c))(ht:W.cell? ta=some old)(hf:W.frozen? ta=false) :
  (ReflectliteValue.set #[.agg #[hnd 31,.pointer (some ta),.int .u64 386],.agg #[hnd 31,.pointer (some b),.int .u64 130]]).run Tryz.prog W=.ok (.tuple #[]) (W.setCell ta (.int .i64 c)):=by
 rw[rls];simp only[Sem.run_bind,partsAE,partsVE,Result.andThen];simp[ReflectliteValue.flagAddr,loadVar,isAgg,underlying,Tryz.underlying31,hb,Result.andThen,directE,storeVar,Value.cells,storeCells,Addr.add];rw[run_store Tryz.prog W ta _ _ (by rfl)];simp[ht,hf]
theorem valElF(c:Addr)(w:World):(ReflectliteValue.unpack (.iface 208 (.pointer (some c)))).run Tryz.prog w=.ok (.agg #[hnd 208,.pointer (some ⟨w.heap.size,0,none⟩),.int .u64 150]) (w.alloc (.cells #[.pointer (some c)] 208)):=by kernel_rfl
theorem partsAF(a:Addr)(w:World):(ReflectliteValue.parts (.agg #[hnd 208,.pointer (some a),.int .u64 406])).run Tryz.prog w=.ok (some (208,a,406)) w:=by kernel_rfl
theorem partsVF(a:Addr)(w:World):(ReflectliteValue.parts (.agg #[hnd 208,.pointer (some a),.int .u64 150])).run Tryz.prog w=.ok (some (208,a,150)) w:=by kernel_rfl
theorem directF(w:World):(Rtype.directlyAssignable 208 208).run Tryz.prog w=.ok true w:=by kernel_rfl
theorem setF(ta b:Addr)(c:Addr)(old:Value)(W:World)(hb:W.cell? b=some (.pointer (some c)))(ht:W.cell? ta=some old)(hf:W.frozen? ta=false) :
  (ReflectliteValue.set #[.agg #[hnd 208,.pointer (some ta),.int .u64 406],.agg #[hnd 208,.pointer (some b),.int .u64 150]]).run Tryz.prog W=.ok (.tuple #[]) (W.setCell ta (.pointer (some c))):=by
 rw[rls];simp only[Sem.run_bind,partsAF,partsVF,Result.andThen];simp[ReflectliteValue.flagAddr,loadVar,isAgg,underlying,Tryz.underlying208,hb,Result.andThen,directF,storeVar,Value.cells,storeCells,Addr.add];rw[run_store Tryz.prog W ta _ _ (by rfl)];simp[ht,hf]
end
section
set_option maxHeartbeats 4000000
open Go Go.RowKit Go.Extern.Stop Go.Stop Go.Extern
set_option maxRecDepth 20000 in
theorem as_code(l:List (ByteArray×Int))(v:Value)(c:Int)(B tb vb:Nat)(old:Value)(w w0:World)(L:List (Nat×Array Value×TypeId))(h:IsErr w v l (.iface 31 (.int .i64 c)))
  (st:St B w0 ((vb,#[.pointer (some ⟨tb,0,none⟩)],79)::(tb,#[old],31)::L) w) :
  Calls Tryz.prog 62 #[v,.iface 79 (.pointer (some ⟨tb,0,none⟩)),.agg #[hnd 79,.pointer (some ⟨vb,0,none⟩),.int .u64 150],.iface 212 (.agg #[hnd 31])] w
   fun e w'=>e=.returned (.bool true)∧St B w0 ((tb,#[.int .i64 c],31)::L) w':=by
 have hT:=@run_callFunc_extern Tryz.prog 103 _ Extern.ReflectliteType.typeOf Tryz.func103 (by kernel_rfl) (by kernel_rfl) (by kernel_rfl) (by kernel_rfl);have hAs:=@run_callFunc_extern Tryz.prog 250 _ zJI Tryz.func250 (by kernel_rfl) (by kernel_rfl) (by kernel_rfl) (by kernel_rfl);have hV:=@run_callFunc_extern Tryz.prog 59 _ (fun args=>ReflectliteValue.unpack (args.getD 0 (.tuple #[]))) Tryz.func59 (by kernel_rfl) (by kernel_rfl) (by kernel_rfl) (by kernel_rfl);have hEl:=@run_callFunc_extern Tryz.prog 104 _ (ReflectliteValue.method (ReflectliteValue.valueError "reflectlite.Value.Elem" 0) ReflectliteValue.elem) Tryz.func104 (by kernel_rfl) (by kernel_rfl) (by kernel_rfl) (by kernel_rfl);have hSet:=@run_callFunc_extern Tryz.prog 105 _ ReflectliteValue.set Tryz.func105 (by kernel_rfl) (by kernel_rfl) (by kernel_rfl) (by kernel_rfl);have tF:=typeOfF;have tE:=typeOfE;have mA:=methAssign;have aF:=asgFE;have aE:=asgEE;have nF:=noAsF;have hF:=hasUnF;have mU:=methUnF;have vE:=valElE;have Hh:=Lib.hid h;clear h;go_enter Tryz.func62,Tryz.ntmps62;have st1:=st.new #[hnd 79,.pointer (some ⟨vb,0,none⟩),.int .u64 150] 141
 have Hh1:=Lib.hid (Hh.out.call ((Below.refl _ _).alloc (Nat.le_refl _) (.cells #[hnd 79,.pointer (some ⟨vb,0,none⟩),.int .u64 150] 141)));go_wp2
 go_loopw [0] (fun err wr=>St B w0 ((w.heap.size,#[hnd 79,.pointer (some ⟨vb,0,none⟩),.int .u64 150],141)::(vb,#[.pointer (some ⟨tb,0,none⟩)],79)::(tb,#[old],31)::L) wr∧∃l,IsErr wr err l (.iface 31 (.int .i64 c))) (fun err wr=>errLen (.iface 31 (.int .i64 c)) wr err)
 case atStart=>exact⟨st1,l,Hh1.out⟩
 case round =>
  obtain⟨st3,l',h⟩:=hrel
  cases l' with
  |nil =>
   obtain rfl:=h;have c60:wr.cell? ⟨w.heap.size,0,none⟩=some (hnd 79):=st3.cell (i:=0) rfl 0;have c61:wr.cell? ⟨w.heap.size,1,none⟩=some (.pointer (some ⟨vb,0,none⟩)):=st3.cell (i:=0) rfl 1;have c62:wr.cell? ⟨w.heap.size,2,none⟩=some (.int .u64 150):=st3.cell (i:=0) rfl 2;have cv:wr.cell? ⟨vb,0,none⟩=some (.pointer (some ⟨tb,0,none⟩)):=by simp[World.cell?,st3.at (i:=1) rfl]
   have el:=elemVE ⟨vb,0,none⟩ ⟨tb,0,none⟩ wr cv;have st4:=st3.new #[.int .i64 c] 31;have se:=setE ⟨tb,0,none⟩ ⟨wr.heap.size,0,none⟩ c old (wr.alloc (.cells #[.int .i64 c] 31)) (st4.cell (i:=0) rfl 0) (st4.cell (i:=3) rfl 0) (st4.free (i:=3) rfl 0);go_wp2;go_ret;exact⟨rfl,((st4.set (i:=3) rfl 0 (.int .i64 c) rfl).drop).drop.drop⟩
  |cons s l' =>
   obtain⟨b,inner,rfl,hc,hi⟩:=h;obtain⟨it,iu,rfl⟩:=hi.iface;have h2:wr.cell? ⟨b,2,none⟩=some (.iface it iu):=by simp[World.cell?,hc]
   have m0:=errLen_eq (by decide) (show IsErr wr (.iface 208 (.pointer (some ⟨b,0,none⟩))) (s::l') (.iface 31 (.int .i64 c)) from ⟨b,_,rfl,hc,hi⟩);have m1:=errLen_eq (by decide) hi;have Hm:Hid (errLen (.iface 31 (.int .i64 c)) wr (.iface it iu)<errLen (.iface 31 (.int .i64 c)) wr (.iface 208 (.pointer (some ⟨b,0,none⟩)))):=by
    unfold Hid;rw[m0,m1];exact Nat.lt_succ_self _
   have Hi:=Lib.hid hi;clear m0 m1 hc hi;go_wp2;go_roundw
   case rel=>exact⟨st3,l',Hi.out⟩
   case measure=>exact Hm.out
end
section
set_option maxHeartbeats 4000000
open Go Go.RowKit Go.Extern.Stop Go.Stop Go.Extern
set_option maxRecDepth 20000 in
theorem AsE_of(t:TypeId)(u:Value)(r:Bool)(tb:Nat)(old new:Value)(w w0:World)(L:List (Nat×Array Value×TypeId))
  (hg:w0.cell? ⟨0,0,none⟩=some (.iface 212 (.agg #[hnd 65])))
  (st:St w0.heap.size w0 ((tb,#[old],31)::L) w)
  (H:∀w1 vb,St w0.heap.size w0 ((vb,#[.pointer (some ⟨tb,0,none⟩)],79)::(tb,#[old],31)::L) w1→Calls Tryz.prog 62 #[.iface t u,.iface 79 (.pointer (some ⟨tb,0,none⟩)),.agg #[hnd 79,.pointer (some ⟨vb,0,none⟩),.int .u64 150],.iface 212 (.agg #[hnd 31])] w1
   fun e w'=>e=.returned (.bool r)∧St w0.heap.size w0 ((tb,#[new],31)::L) w') :
  Calls Tryz.prog 28 #[.iface t u,.iface 79 (.pointer (some ⟨tb,0,none⟩))] w fun e w'=>e=.returned (.bool r)∧St w0.heap.size w0 ((tb,#[new],31)::L) w':=by
 have hV:=@run_callFunc_extern Tryz.prog 59 _ (fun args=>ReflectliteValue.unpack (args.getD 0 (.tuple #[]))) Tryz.func59 (by kernel_rfl) (by kernel_rfl) (by kernel_rfl) (by kernel_rfl);have h7:=@run_callFunc_extern Tryz.prog 60 _ (ReflectliteValue.methodAny (ReflectliteValue.valueError "reflectlite.Value.Type" 0) (fun t _ _ _=>ReflectliteType.toType t)) Tryz.func60 (by kernel_rfl) (by kernel_rfl) (by kernel_rfl) (by kernel_rfl);have h8:=@run_callFunc_extern Tryz.prog 61 _ (ReflectliteValue.method (ReflectliteValue.valueError "reflectlite.Value.IsNil" 0) ReflectliteValue.isNil) Tryz.func61 (by kernel_rfl) (by kernel_rfl) (by kernel_rfl) (by kernel_rfl);have h27:=@run_callFunc_extern Tryz.prog 236 _ (ReflectliteType.abiMethod fun t=>(fun a:Nat=>Value.int IntKind.u8 (a:Int)) <$> Rtype.kind t) Tryz.func236 (by kernel_rfl) (by kernel_rfl) (by kernel_rfl) (by kernel_rfl);have h37:=@run_callFunc_extern Tryz.prog 252 _ (ReflectliteType.method ReflectliteType.elem) Tryz.func252 (by kernel_rfl) (by kernel_rfl) (by kernel_rfl) (by kernel_rfl)
 have h38:=@run_callFunc_extern Tryz.prog 253 _ (ReflectliteType.relation "Implements" ReflectliteType.implements_) Tryz.func253 (by kernel_rfl) (by kernel_rfl) (by kernel_rfl) (by kernel_rfl);have f6:=valOfE;have f7:=typE;have mK:=methKind;have mE:=methElem;have mI:=methImpl;have k27:=kindTE;have k25:=kindEE;have e27:=elemE;have i25:=implE;have st1:=st.new #[.pointer (some ⟨tb,0,none⟩)] 79;have st2:=st1.new #[hnd 79,.pointer (some ⟨w.heap.size,0,none⟩),.int .u64 150] 141;have n8:=isNilE ⟨w.heap.size,0,none⟩ ⟨tb,0,none⟩ _ (st2.cell (i:=1) rfl 0);have hg2:=hg;rw[←st2.below.cell (block_lt_of_cell hg)] at hg2;have H1:=Lib.hid (H _ _ st2.drop);clear H;go_enter Tryz.func28,Tryz.ntmps28
 go_wp2_with (first | (go_at_call 62;refine(H1.out).mono ?_;rintro e wn ⟨rfl,st5⟩))
 go_ret;exact⟨rfl,st5⟩
set_option maxRecDepth 20000 in
theorem AsF_of(t:TypeId)(u:Value)(r:Bool)(tb:Nat)(old new:Value)(w w0:World)(L:List (Nat×Array Value×TypeId))
  (hg:w0.cell? ⟨0,0,none⟩=some (.iface 212 (.agg #[hnd 65])))
  (st:St w0.heap.size w0 ((tb,#[old],208)::L) w)
  (H:∀w1 vb,St w0.heap.size w0 ((vb,#[.pointer (some ⟨tb,0,none⟩)],270)::(tb,#[old],208)::L) w1→Calls Tryz.prog 62 #[.iface t u,.iface 270 (.pointer (some ⟨tb,0,none⟩)),.agg #[hnd 270,.pointer (some ⟨vb,0,none⟩),.int .u64 150],.iface 212 (.agg #[hnd 208])] w1
   fun e w'=>e=.returned (.bool r)∧St w0.heap.size w0 ((tb,#[new],208)::L) w') :
  Calls Tryz.prog 28 #[.iface t u,.iface 270 (.pointer (some ⟨tb,0,none⟩))] w fun e w'=>e=.returned (.bool r)∧St w0.heap.size w0 ((tb,#[new],208)::L) w':=by
 have hV:=@run_callFunc_extern Tryz.prog 59 _ (fun args=>ReflectliteValue.unpack (args.getD 0 (.tuple #[]))) Tryz.func59 (by kernel_rfl) (by kernel_rfl) (by kernel_rfl) (by kernel_rfl);have h7:=@run_callFunc_extern Tryz.prog 60 _ (ReflectliteValue.methodAny (ReflectliteValue.valueError "reflectlite.Value.Type" 0) (fun t _ _ _=>ReflectliteType.toType t)) Tryz.func60 (by kernel_rfl) (by kernel_rfl) (by kernel_rfl) (by kernel_rfl);have h8:=@run_callFunc_extern Tryz.prog 61 _ (ReflectliteValue.method (ReflectliteValue.valueError "reflectlite.Value.IsNil" 0) ReflectliteValue.isNil) Tryz.func61 (by kernel_rfl) (by kernel_rfl) (by kernel_rfl) (by kernel_rfl);have h27:=@run_callFunc_extern Tryz.prog 236 _ (ReflectliteType.abiMethod fun t=>(fun a:Nat=>Value.int IntKind.u8 (a:Int)) <$> Rtype.kind t) Tryz.func236 (by kernel_rfl) (by kernel_rfl) (by kernel_rfl) (by kernel_rfl);have h37:=@run_callFunc_extern Tryz.prog 252 _ (ReflectliteType.method ReflectliteType.elem) Tryz.func252 (by kernel_rfl) (by kernel_rfl) (by kernel_rfl) (by kernel_rfl)
 have h38:=@run_callFunc_extern Tryz.prog 253 _ (ReflectliteType.relation "Implements" ReflectliteType.implements_) Tryz.func253 (by kernel_rfl) (by kernel_rfl) (by kernel_rfl) (by kernel_rfl);have f6:=valOfF;have f7:=typF;have mK:=methKind;have mE:=methElem;have mI:=methImpl;have k27:=kindTF;have k25:=kindEF;have e27:=elemF;have i25:=implF;have st1:=st.new #[.pointer (some ⟨tb,0,none⟩)] 270;have st2:=st1.new #[hnd 270,.pointer (some ⟨w.heap.size,0,none⟩),.int .u64 150] 141;have n8:=isNilF ⟨w.heap.size,0,none⟩ ⟨tb,0,none⟩ _ (st2.cell (i:=1) rfl 0);have hg2:=hg;rw[←st2.below.cell (block_lt_of_cell hg)] at hg2;have H1:=Lib.hid (H _ _ st2.drop);clear H;go_enter Tryz.func28,Tryz.ntmps28
 go_wp2_with (first | (go_at_call 62;refine(H1.out).mono ?_;rintro e wn ⟨rfl,st5⟩))
 go_ret;exact⟨rfl,st5⟩
end
end Go.Proofs.YtlcngapphloafaaGreatDoor
