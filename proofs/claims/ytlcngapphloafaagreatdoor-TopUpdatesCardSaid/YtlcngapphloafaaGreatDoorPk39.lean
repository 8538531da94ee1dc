/- Parts of the proof that are used by the claim: MapS. No condition is added here. -/
import Derived.Test.YtlcngapphloafaaGreatDoorPk36
import Derived.Maps.OwnOps
namespace Go.Proofs.YtlcngapphloafaaGreatDoor
section
open Go Go.RowKit
section
variable {P:Program}
theorem loop_check(w:World)(d:Nat)(em:Bool)(elem:TypeId)(he:P.underlying elem=some (.int .u8))(hsz:(sizeOf elem).run P w=.ok 1 w)(a:List Nat):∀(n k:Nat),k+n=a.length →
  (forIn (m:=Sem) (List.range' k n) PUnit.unit fun i _=>do
   let s ←sizeOf elem
   let v ←part elem (kv a) (i*s)
   Instr.checkKey em (d+1) elem v
   pure (ForInStep.yield PUnit.unit)).run P w=.ok PUnit.unit w
 |0,k,hk=>by simp
 |n+1,k,hk=>by
  have ih:=loop_check w d em elem he hsz a n (k+1) (by omega);have h1:(Instr.checkKey em (d+1) elem (.int .u8 (a.getD k 0:Nat))).run P w=.ok () w:=by
   rw[Instr.checkKey];simp[Sem.run_bind,run_underlying he]
  simp only[List.range'_succ,List.forIn_cons,Sem.run_bind,hsz,Nat.mul_one,zIL w elem he a k (by omega),Result.andThen_ok,h1,Sem.run_pure];exact ih
theorem run_checkKey_bytes(w:World)(d:Nat)(em:Bool)(t elem:TypeId)(len:Nat)(ht:P.underlying t=some (.array len elem))(he:P.underlying elem=some (.int .u8))(hs:(P.info? elem).map (·.size)=some 1)
  (a:List Nat) (la:a.length=len):(Instr.checkKey em (d+2) t (.agg (kv a))).run P w=.ok () w:=by
 cases hq:P.info? elem with
 |none=>simp[hq] at hs
 |some i =>
  have hz:i.size=1:=by simpa[hq] using hs
  have hsz:(sizeOf elem).run P w=.ok 1 w:=by simp[sizeOf,typeInfo,hq,hz]
  have hl:=loop_check (P:=P) w d em elem he hsz a len 0 (by omega);rw[Instr.checkKey];simp only[Sem.run_bind,run_underlying ht,Result.andThen_ok,Std.Legacy.Range.forIn_eq_forIn_range',Std.Legacy.Range.size];simp only[Nat.sub_zero,Nat.add_sub_cancel,Nat.div_one] at hl ⊢;rw[hl];rfl
end
theorem eqlKeyE(a b:List Nat)(la:a.length=32)(lb:b.length=32)(w:World):(Op.equal 37 (.agg (kv a)) (.agg (kv b))).run Tryz.prog w=.ok (decide (a=b)) w:=eqlKey a b la lb w
theorem find_in(k:List Nat)(hk:k.length=32)(w:World):∀(es:List MapEntry)(ks:List (List Nat)) (i:Nat),es.map (fun e=>e.key)=ks.map (fun k=>Value.agg (kv k))→(∀e∈es,e.val=.bool true)→(∀k∈ks,k.length=32)→k∈ks →
  ∃j,(Instr.findAsking 37 (.agg (kv k)) es i).run Tryz.prog w=.ok (some (j,.bool true)) w
 |[],[],_,_,_,_,h=>(List.not_mem_nil h).elim
 |[],_::_,_,h,_,_,_=>by simp at h
 |_::_,[],_,h,_,_,_=>by simp at h
 |e::es,k'::ks,i,h,hv,hl,hm=>by
  simp only[List.map_cons,List.cons.injEq] at h;have hk':k'.length=32:=hl k' List.mem_cons_self;rw[Instr.findAsking];simp only[Sem.run_bind,h.1,eqlKeyE k k' hk hk' w,Result.andThen_ok]
  by_cases he:k=k'
  ·exact⟨i,by simp[he,hv e List.mem_cons_self]⟩
  ·obtain⟨j,hj⟩:=find_in k hk w es ks (i+1) h.2 (fun x hx=>hv x (List.mem_cons_of_mem _ hx)) (fun x hx=>hl x (List.mem_cons_of_mem _ hx)) ((List.mem_cons.1 hm).resolve_left he)
   exact⟨j,by simpa[he] using hj⟩
theorem find_out(k:List Nat)(hk:k.length=32)(w:World):∀(es:List MapEntry)(ks:List (List Nat)) (i:Nat),es.map (fun e=>e.key)=ks.map (fun k=>Value.agg (kv k))→(∀k∈ks,k.length=32)→k∉ks →
  (Instr.findAsking 37 (.agg (kv k)) es i).run Tryz.prog w=.ok none w
 |[],_,_,_,_,_=>by simp[Instr.findAsking]
 |_::_,[],_,h,_,_=>by simp at h
 |e::es,k'::ks,i,h,hl,hm=>by
  simp only[List.map_cons,List.cons.injEq] at h;have hk':k'.length=32:=hl k' List.mem_cons_self;have he:k≠k':=fun e=>hm (by rw[e];exact List.mem_cons_self)
  rw[Instr.findAsking];simp only[Sem.run_bind,h.1,eqlKeyE k k' hk hk' w,Result.andThen_ok];have ih:=find_out k hk w es ks (i+1) h.2 (fun x hx=>hl x (List.mem_cons_of_mem _ hx)) (fun hx=>hm (List.mem_cons_of_mem _ hx))
  simpa[he] using ih
theorem findKey_eq(k:Value)(es:List MapEntry)(w:World):(Instr.findKey 37 k es).run Tryz.prog w=(Instr.findAsking 37 k es).run Tryz.prog w:=by
 unfold Instr.findKey;rw[Sem.run_bind,run_underlying zBF]
 cases es with
 |nil=>simp[Instr.findNow,Instr.findAsking]
 |cons e es=>simp[Instr.findNow,Instr.sameNow]
def OwnSet(w:World)(b:Nat)(ks:List (List Nat)):Prop :=
 ∃es clock,w.heap[b]?=some (.map es clock)∧es.toList.map (fun e=>e.key)=ks.map (fun k=>Value.agg (kv k))∧(∀e∈es.toList,e.val=.bool true)∧∀k∈ks,k.length=32
theorem OwnSet.lt{w:World}{b:Nat}{ks:List (List Nat)}(h:OwnSet w b ks):b<w.heap.size:=by
 obtain⟨_,_,h,_⟩:=h;exact zAG h
theorem OwnSet.kept{w w':World}{b:Nat}{ks:List (List Nat)}{row:Option Nat}(h:OwnSet w b ks)(hg:w.grownBy w' row)(hne:some b≠row):OwnSet w' b ks:=by
 have hlt:=h.lt;obtain⟨es,clock,h1,h2⟩:=h;exact⟨es,clock,(hg.block b hlt hne).trans h1,h2⟩
theorem OwnSet.call{w w':World}{b:Nat}{ks:List (List Nat)}(h:OwnSet w b ks)(hb:Below w.heap.size w w'):OwnSet w' b ks:=h.kept (row:=none) (zHE hb) (by simp)
theorem OwnSet.drew{w:World}{b:Nat}{ks:List (List Nat)}(h:OwnSet w b ks):OwnSet {w with drawn:=w.drawn+1} b ks:=h
theorem OwnSet.made(w:World):OwnSet (w.alloc (.map #[] 0)) w.heap.size [] :=
 ⟨#[],0,(MapKept.heap_alloc w _).1,rfl,fun _ h=>(List.not_mem_nil h).elim,fun _ h=>(List.not_mem_nil h).elim⟩
theorem mapT:Tryz.prog.underlying 274=some (.map 37 4):=by kernel_rfl
theorem OwnSet.look{w:World}{b:Nat}{ks:List (List Nat)}(h:OwnSet w b ks)(k:List Nat)(hk:k.length=32):(Instr.lookup 274 (.map (some b)) (.agg (kv k)) false).run Tryz.prog w=.ok (.bool (decide (k∈ks))) w:=by
 obtain⟨es,clock,h1,h2,h3,h4⟩:=h;have hc:=fun em=>run_checkKey_bytes (P:=Tryz.prog) w 9998 em 37 5 32 zBF byteT zGN k hk
 by_cases hm:k∈ks
 ·obtain⟨j,hj⟩:=find_in k hk w es.toList ks 0 h2 h3 h4 hm
  simp[Instr.lookup,run_underlying mapT,MapKept.run_getObj_map h1,hc,findKey_eq,hj,hm,Result.andThen]
 ·have hj:=find_out k hk w es.toList ks 0 h2 h4 hm
  simp[Instr.lookup,run_underlying mapT,MapKept.run_getObj_map h1,hc,findKey_eq,hj,hm,Result.andThen]
theorem OwnSet.update{w:World}{b:Nat}{ks:List (List Nat)}(h:OwnSet w b ks)(k:List Nat)(hk:k.length=32)(hm:k∉ks) :
  ∃w',(Instr.mapUpdate 274 (.map (some b)) (.agg (kv k)) (.bool true)).run Tryz.prog w=.ok () w'∧OwnSet w' b (ks++[k])∧w.grownBy w' (some b):=by
 obtain⟨es,clock,h1,h2,h3,h4⟩:=h;have hc:=fun em=>run_checkKey_bytes (P:=Tryz.prog) w 9998 em 37 5 32 zBF byteT zGN k hk
 have hj:=find_out k hk w es.toList ks 0 h2 h4 hm;refine⟨_,by simp only[Instr.mapUpdate,Sem.run_bind,run_underlying mapT,MapKept.run_getObj_map h1,hc,findKey_eq,hj,Result.andThen_ok];exact MapKept.run_setObj_map _ h1,⟨es.push {key:=.agg (kv k),val:=.bool true,born:=clock},clock+1,ChangeMaps.heap_setBlock_same h1 _,?_,?_,?_⟩,⟨rfl,rfl,rfl,by simp[ChangeMaps.setBlock],fun i _ hi=>ChangeMaps.heap_setBlock_other h1 _ (fun e=>hi (by rw[e]))⟩⟩
 ·rw[Array.toList_push,List.map_append,List.map_append,h2]
  rfl
 ·intro e he
  rw[Array.toList_push] at he;rcases List.mem_append.1 he with he | he
  ·exact h3 e he
  ·rw[List.mem_singleton.1 he]
 ·intro x hx
  rcases List.mem_append.1 hx with hx | hx
  ·exact h4 x hx
  ·rw[List.mem_singleton.1 hx]
   exact hk
section
variable {ops:Array Oper} {rest:List Oper} {o:Oper} {a:Act} {w:World} {Q:Exit→Act→World→Prop}
theorem wpList_lookS(hgd:Region.wanted o (yielded ops a.tmps)=true)(m x:Operand)(hop:o.op=Op.lookup 274 m x false)(b:Nat)(ks:List (List Nat))(hm:a.eval m=.map (some b))(hown:OwnSet w b ks)(k:List Nat)(hk:k.length=32)(hx:a.eval x=.agg (kv k))
  (h:wpList Tryz.prog ops Q rest (a.put o.dst (.bool (decide (k∈ks)))) w):wpList Tryz.prog ops Q (o::rest) a w:=by
 refine zCP hgd fun K hK=>?_
 have hl:=hown.look k hk;unfold Oper.wp execOp;simp only[hop,hm,hx,Sem.run_bind,hl,Result.andThen_ok,Sem.run_pure,Oper.upon];exact hK _ _ h
theorem wpList_updS(hg:o.guard=none)(m x v:Operand)(hop:o.op=Op.mapUpdate 274 m x v)(b:Nat)(ks:List (List Nat))(hm:a.eval m=.map (some b))(hown:OwnSet w b ks)(k:List Nat)(hk:k.length=32)(hnew:k∉ks)(hx:a.eval x=.agg (kv k))(hv:a.eval v=.bool true)
  (h:∀w',OwnSet w' b (ks++[k])→w.grownBy w' (some b)→wpList Tryz.prog ops Q rest (a.put o.dst undef) w'):wpList Tryz.prog ops Q (o::rest) a w:=by
 refine wpList_plain hg fun K' hK'=>?_
 obtain⟨w',hrun,r1,r2⟩:=hown.update k hk hnew;unfold Oper.wp;simp[execOp,hop,hm,hx,hv,hrun,Result.andThen];exact hK' _ _ (h w' r1 r2)
theorem wpList_madeS(hg:o.guard=none)(hop:o.op=Op.makeMap 274 none)
  (h:∀b w',OwnSet w' b []→w.heap.size≤b→Below w.heap.size w w'→wpList Tryz.prog ops Q rest (a.put o.dst (.map (some b))) w'):wpList Tryz.prog ops Q (o::rest) a w:=by
 refine wpList_plain hg fun K' hK'=>?_
 unfold Oper.wp;simp[execOp,hop,Instr.makeMap,Result.andThen];exact hK' _ _ (h _ _ (OwnSet.made w) (Nat.le_refl _) ((Below.refl _ _).alloc (Nat.le_refl _) _))
end
end
end Go.Proofs.YtlcngapphloafaaGreatDoor
