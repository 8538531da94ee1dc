/- Parts of the proof that are used by the claim: Ch7, Ch8, Ch9, Ch10, BatP, Ap1. No condition is added here. -/
import Derived.Test.YtlcngapphloafaaGreatDoorPk33
import Derived.Lib.Overlaps
import Derived.Lib.AppendZerosOnto
namespace Go.Proofs.YtlcngapphloafaaGreatDoor
section
set_option maxHeartbeats 4000000
open Go Go.RowKit
attribute [local irreducible] Inv.wpInv Mix.wpUp
section
variable {P:Program} {ops:Array Oper} {rest:List Oper} {o:Oper} {a:Act} {w w0:World} {Q:Exit→Act→World→Prop}
theorem zGY{base:Nat}(v:Value)(hgd:o.guard=none)(s x:Operand)(t:TypeId)
  (ho:o.op=.call {callee:=.builtin .append,args:=#[s,x],argTypes:=#[t,t]}) (e:TypeId) (z:Value) (size bytes:Nat) (ht:P.underlying t=some (.slice e))
  (hz:(P.info? e).bind (·.zero)=some z) (hsize:(P.info? e).map (·.size)=some size) (hby:(P.info? e).map (·.bytes)=some bytes) (hzs:z.cells.size=size) (hsz:0<size)
  (n:Nat) (xs:List Value) (hs:a.eval s=v) (hown:w.ownsRow base e size v n xs)
  (b m c:Nat) (news:Array Value) (tt:TypeId) (hx:a.eval x=.slice (some ⟨b,0,none⟩) m c) (hl:news.size=m*size) (hb:w.heap[b]?=some (.cells news tt (0,0))) (h1:∀u∈news.toList,u.oneCell'=true)
  (h63:n+m≤maxLen) (hbytes:(n+m)*bytes≤140737488355328) (hbase:base≤w.heap.size)
  (h:∀v' w1,w1.ownsRow base e size v' (n+m) (xs++news.toList)→w.grownBy w1 v.ownBlock→wpList P ops Q rest (a.put o.dst v') w1):wpList P ops Q (o::rest) a w:=by
 cases hq:P.info? e with
 |none=>simp[hq] at hz
 |some i =>
  refine wpList_append_own w hgd s x t ho base e i z size bytes ht hq (by simpa[hq] using hz) (by simpa[hq] using hsize) (by simpa[hq] using hby) hzs hsz v n xs hs hown ⟨b,0,none⟩ m c news.toList hx (by simpa using hl) (fun j u hu=>?_) h1 h63 hbytes hbase (fun v' w' g1 g2 _=>h v' w' g1 g2);have hadd:(⟨b,0,none⟩:Addr).add j=⟨b,j,none⟩:=by unfold Addr.add;split<;>simp_all
  rw[hadd,cell_of_row w b j news tt (0,0) hb,←Array.getElem?_toList];exact hu
theorem wpList_copyN(hgd:o.guard=none)(d s:Operand)(t e:TypeId)(ho:o.op=.call {callee:=.builtin .copy,args:=#[d,s],argTypes:=#[t,t]})(ht:P.underlying t=some (.slice e))(sz:Nat)(hs:(P.info? e).map (·.size)=some sz)
  (g off dl dc:Nat) (hd:a.eval d=.slice (some ⟨g,off,none⟩) dl dc) (b soff sl sc:Nat) (hx:a.eval s=.slice (some ⟨b,soff,none⟩) sl sc) (cur:Array Value) (ty:TypeId) (hrow:w.heap[g]?=some (.cells cur ty (0,0)))
  (news:List Value) (hn:news.length=Nat.min sl dl*sz) (hsrc:CellsAt w b soff news) (hfit:off+news.length≤cur.size) (h1:∀u∈news,u.oneCell'=true)
  (h:∀w1,w.grownBy w1 (some g)→w1.heap[g]?=some (.cells (zCT cur off (.agg news.toArray)) ty (0,0))→wpList P ops Q rest (a.put o.dst (goInt (Nat.min sl dl))) w1):wpList P ops Q (o::rest) a w:=by
 refine wpList_plain hgd fun K hK=>?_
 have hr:=run_copy_rowN (P:=P) w t t o.type e g off dl dc sz ⟨b,soff,none⟩ sl sc cur ty news ht hs hrow hn (fun j u hu=>by
  have hadd:(⟨b,soff,none⟩:Addr).add j=⟨b,soff+j,none⟩:=by unfold Addr.add;split<;>simp_all
  rw[hadd];exact hsrc j u hu) hfit h1
 unfold Oper.wp execOp;simp only[ho,resolve,invoke,builtin,Sem.run_bind,Sem.run_pure,Result.andThen_ok,List.map_toArray,List.map_cons,List.map_nil,hd,hx,hr,Oper.upon];exact hK _ _ (h _ (zHX _ _ _) (setRow_heap _ _ _ _ _ _ hrow))
theorem wpList_appendRun(hgd:o.guard=none)(d s:Operand)(t t':TypeId)(ho:o.op=.call {callee:=.builtin .append,args:=#[d,s],argTypes:=#[t,t']})(v u:Value)(hd:a.eval d=v)(hx:a.eval s=u)(v':Value)(w':World)
  (hr:(Builtin.append_ #[t,t'] o.type #[v,u]).run P w=.ok v' w') (h:wpList P ops Q rest (a.put o.dst v') w'):wpList P ops Q (o::rest) a w:=by
 refine wpList_plain hgd fun K hK=>?_
 unfold Oper.wp execOp;simp only[ho,resolve,invoke,builtin,Sem.run_bind,Sem.run_pure,Result.andThen_ok,List.map_toArray,List.map_cons,List.map_nil,hd,hx,hr,Oper.upon];exact hK _ _ h
theorem zHU{t e:TypeId}{sz:Nat}(ht:P.underlying t=some (.slice e))(hs:(P.info? e).map (·.size)=some sz)(a:Option Addr)(n c:Nat)(k:IntKind)(lo:Nat)(h:lo≤n)(w:World) :
  (Instr.slice t (.slice a n c) (some (.int k lo)) none none).run P w=.ok (.slice (if c=lo then a else a.map (·.add (lo*sz))) (n - lo) (c - lo)) w:=by
 cases hq:P.info? e with
 |none=>simp[hq] at hs
 |some i =>
  have hz:i.size=sz:=by simpa[hq] using hs
  simp[Instr.slice,Instr.sliceBounds,Instr.sliceBound,asIntOf,run_underlying ht,sizeOf,typeInfo,hq,hz,Sem.run_bind,h,Result.andThen]
end
theorem putAt_list(cur:Array Value)(off:Nat)(Y:List Value):(zCT cur off (.agg Y.toArray)).toList=cur.toList.take off++(Y++cur.toList.drop (off+Y.length)):=by
 unfold zCT;simp[Value.cells]
theorem putAt_sizeL(cur:Array Value)(off:Nat)(Y:List Value)(h:off+Y.length≤cur.size):(zCT cur off (.agg Y.toArray)).size=cur.size:=by
 rw[←Array.length_toList,putAt_list];simp;omega
theorem ins_row(A B X:List Value)(cur:Array Value)(hX:X.length=34)(h:cur.toList.take A.length=A)(hs:A.length+34+B.length≤cur.size) :
  (zCT (zCT cur (A.length+34) (.agg B.toArray)) A.length (.agg X.toArray)).toList.take (A.length+34+B.length)=A++(X++B):=by
 have hl:cur.toList.length=cur.size:=by simp
 rw[putAt_list,putAt_list,hX];have t1:(cur.toList.take (A.length+34)++(B++cur.toList.drop (A.length+34+B.length))).take A.length=A:=by
  rw[List.take_append_of_le_length (by rw[List.length_take];omega),List.take_take,Nat.min_eq_left (by omega),h]
 have t2:(cur.toList.take (A.length+34)++(B++cur.toList.drop (A.length+34+B.length))).drop (A.length+34)=B++cur.toList.drop (A.length+34+B.length):=List.drop_left' (by rw[List.length_take];omega);rw[t1,t2];have e:A++(X++(B++cur.toList.drop (A.length+34+B.length)))=(A++(X++B))++cur.toList.drop (A.length+34+B.length):=by simp
 rw[e];exact List.take_left' (by simp[hX];omega)
theorem ins_row2(A B X:List Value)(cur:Array Value)(hX:X.length=34)(h:cur.toList.take A.length=A) :
  (zCT (zCT cur A.length (.agg X.toArray)) (A.length+34) (.agg B.toArray)).toList.take (A.length+34+B.length)=A++(X++B):=by
 rw[putAt_list,putAt_list,hX,h];have t1:(A++(X++cur.toList.drop (A.length+34))).take (A.length+34)=A++X:=by
  rw[←List.append_assoc];exact List.take_left' (by simp[hX])
 rw[t1];have e:∀D:List Value,(A++X)++(B++D)=(A++(X++B))++D:=fun D=>by simp
 rw[e];exact List.take_left' (by simp[hX];omega)
def InsPost(g:Nat)(cs:List Chg)(x:Chg)(i:Nat)(w:World)(e:Ending)(w':World):Prop:=∃v',e=.returned v'∧RdCh w' v' (cs.take i++x::cs.drop i)∧w.grownBy w' (some g)
theorem insRd{w:World}{g cap:Nat}{cur:Array Value}{cs:List Chg}{x:Chg}{i:Nat}(hk:KeysCh cs)(hx:x.k.length=32)(hi:i≤cs.length)(hn:cs.length≤100000)(hcap:cs.length+1≤cap)(hrow:w.heap[g]?=some (.cells cur 276 (0,0)))
  (h:cur.toList.take ((cs.length+1)*34)=(cs.take i).flatMap chc++(chc x++(cs.drop i).flatMap chc)):RdCh w (.slice (some ⟨g,0,none⟩) (cs.length+1) cap) (cs.take i++x::cs.drop i):=by
 have hl:(cs.take i++x::cs.drop i).length=cs.length+1:=by
  rw[List.length_append,List.length_cons,List.length_take,List.length_drop];omega
 have h34:∀c∈cs.take i++x::cs.drop i,(chc c).length=34:=fun c hc=>by
  rcases List.mem_append.1 hc with hc | hc
  ·exact hk.lens c (List.mem_of_mem_take hc)
  ·rcases List.mem_cons.1 hc with rfl | hc
   ·exact zFK _ hx
   ·exact hk.lens c (List.mem_of_mem_drop hc)
 refine⟨h34,by omega,some ⟨g,0,none⟩,cap,by rw[hl],by omega,fun _=>⟨g,0,rfl,fun j hj=>?_⟩⟩;rw[Nat.zero_add];exact rowAt h34 hrow (by rw[h,List.flatMap_append,List.flatMap_cons]) (by rw[hl]) j hj
set_option maxRecDepth 20000 in
theorem InsertEnd_calls(cs:List Chg)(x:Chg)(g cap vb:Nat)(cur:Array Value)(w:World)(hk:KeysCh cs)(hx:x.k.length=32)(hn:cs.length≤100000)(hrow:w.heap[g]?=some (.cells cur 276 (0,0)))(hcap:cs.length≤cap)(hcap2:cap≤maxLen)(hsz:cur.size=cap*34)(htk:cur.toList.take (cs.length*34)=cs.flatMap chc)
  (hv:w.heap[vb]?=some (.cells (chc x).toArray 276 (0,0))) :
  Calls Tryz.prog 207 #[.slice (some ⟨g,0,none⟩) cs.length cap,.int .i64 (cs.length:Nat),.slice (some ⟨vb,0,none⟩) 1 1] w (InsPost g cs x cs.length w):=by
 have hown:w.ownsRow g 276 34 (.slice (some ⟨g,0,none⟩) cs.length cap) cs.length (cs.flatMap chc):=⟨zEW hk.lens,.inr ⟨g,cap,cur,rfl,Nat.le_refl _,hrow,hcap,hcap2,hsz,htk⟩⟩
 have HP:Hid (∀(v':Value)(w':World),w'.ownsRow g 276 34 v' (cs.length+1) (cs.flatMap chc++(chc x).toArray.toList)→w.grownBy w' (some g)→InsPost g cs x cs.length w (.returned v') w'):=fun v' w' h1 h2=>by
  refine⟨v',rfl,?_,h2⟩;rw[List.take_length,List.drop_length];refine RdG.own (fun c hc=>?_) (by rw[List.length_append];simp;omega) (e:=276) (base:=g) ?_
  ·rcases List.mem_append.1 hc with hc | hc
   ·exact hk.lens c hc
   ·rw[List.mem_singleton.1 hc];exact zFK _ hx
  ·rw[List.length_append,List.flatMap_append]
   simpa using h1
 generalize InsPost g cs x cs.length w=R at *;have hglt:=zAG hrow;have HO:=Lib.hid hown;have HS:=Lib.hid (zDS x hx);have H1:=Lib.hid (zJG x);have hs0:=zHU (P:=Tryz.prog) zDE zCD (some ⟨g,0,none⟩) cs.length cap .i64 cs.length (Nat.le_refl _);have hni:((cs.length:Nat):Int)≤100000:=by omega
 clear hown htk hrow hk;generalize (if cap=cs.length then (some (⟨g,0,none⟩:Addr)) else (some (⟨g,0,none⟩:Addr)).map (fun x=>x.add (cs.length*34)))=sa at *;go_enter Tryz.func207,Tryz.ntmps207
 go_wp2_with (first
  |(at_builtin;(refine zGY (base:=g) _ rfl _ _ 235 rfl 276 _ 34 64 zDE zeroCh zCD bytesCh rfl (by decide) cs.length (cs.flatMap chc) rfl HO.out vb 1 1 (chc x).toArray 276 rfl (by rw[HS.out]) hv H1.out (by unfold maxLen;omega) (by omega) (Nat.le_of_lt hglt) ?_);intro v2 w2 hown2 hg2))
 exact HP.out _ _ hown2 hg2
end
section
set_option maxHeartbeats 4000000
open Go Go.RowKit
attribute [local irreducible] Inv.wpInv Mix.wpUp
theorem zIS(g n cap i:Nat)(h:i≤n)(hc:¬cap=i)(w:World):(Instr.slice 235 (.slice (some ⟨g,0,none⟩) n cap) (some (.int .i64 (i:Nat))) none none).run Tryz.prog w=.ok (.slice (some ⟨g,i*34,none⟩) (n - i) (cap - i)) w:=by
 have h1:=zIY (P:=Tryz.prog) zDE zCD (some ⟨g,0,none⟩) n cap .i64 i h hc w;have e:(some (⟨g,0,none⟩:Addr)).map (fun x=>x.add (i*34))=some ⟨g,i*34,none⟩:=by
  simp[Addr.add];intro h5;omega
 rw[e] at h1;exact h1
theorem shapeRow{w:World}{b:Nat}{cs:Array Value}{t:TypeId}{fr:Nat×Nat}(h:w.heap[b]?=some (.cells cs t fr)):w.shape? b=some (t,cs.size):=by
 simp[World.shape?,h]
theorem overlapsC(w:World)(vb g off lb cb:Nat)(x cur:Array Value)(hne:vb≠g)(hv:w.heap[vb]?=some (.cells x 276 (0,0)))(hg:w.heap[g]?=some (.cells cur 276 (0,0)))(h0:cur.size≠0) :
  (callFunc 217 #[.slice (some ⟨vb,0,none⟩) 1 1,.slice (some ⟨g,off,none⟩) lb cb]).run Tryz.prog w=.ok (.value (.bool false)) w:=by
 have hz:∀w,(Go.sizeOf 276).run Tryz.prog w=.ok 34 w:=fun w=>by
  cases hq:Tryz.prog.info? 276 with
  |none=>have:=zCD;simp[hq] at this
  |some i =>
   have hi:i.size=34:=by have:=zCD;simpa[hq] using this
   simp[Go.sizeOf,typeInfo,hq,hi]
 rw[run_callFunc_extern Tryz.func217 (by kernel_rfl) (by kernel_rfl) (by kernel_rfl) (e:=Extern.SlicesOverlaps.overlaps #[235,235] #[4]) (by kernel_rfl),
  Lib.run_overlaps_apart w 235 4 276 zDE 34 hz ⟨vb,0,none⟩ ⟨g,off,none⟩ 1 1 lb cb hne 276 276 x.size cur.size (shapeRow hv) (shapeRow hg) h0 (by simp[World.frozen?,hv]) (by simp[World.frozen?,hv])]
 rfl
set_option maxRecDepth 20000 in
theorem InsertRoom_calls(cs:List Chg)(x:Chg)(i g cap vb:Nat)(cur:Array Value)(w:World)(hk:KeysCh cs)(hx:x.k.length=32)(hn:cs.length≤100000)(hi:i<cs.length)(hrow:w.heap[g]?=some (.cells cur 276 (0,0)))(hcap:cs.length+1≤cap)(hsz:cur.size=cap*34)(htk:cur.toList.take (cs.length*34)=cs.flatMap chc)
  (hv:w.heap[vb]?=some (.cells (chc x).toArray 276 (0,0))) (hne:vb≠g) :
  Calls Tryz.prog 207 #[.slice (some ⟨g,0,none⟩) cs.length cap,.int .i64 (i:Nat),.slice (some ⟨vb,0,none⟩) 1 1] w (InsPost g cs x i w):=by
 have hlA:((cs.take i).flatMap chc).length=i*34:=by
  rw[zEW (fun c hc=>hk.lens c (List.mem_of_mem_take hc)),List.length_take,Nat.min_eq_left (by omega)]
 have hlB:((cs.drop i).flatMap chc).length=(cs.length - i)*34:=by
  rw[zEW (fun c hc=>hk.lens c (List.mem_of_mem_drop hc)),List.length_drop]
 have hsplit:cs.flatMap chc=(cs.take i).flatMap chc++(cs.drop i).flatMap chc:=by rw[←List.flatMap_append,List.take_append_drop]
 have hn34:cs.length*34=i*34+(cs.length - i)*34:=by omega
 have hA:cur.toList.take (i*34)=(cs.take i).flatMap chc:=by
  have h:=congrArg (List.take (i*34)) htk
  rwa [List.take_take,Nat.min_eq_left (by omega),hsplit,List.take_left' hlA] at h
 have hB:CellsAt w g (i*34) ((cs.drop i).flatMap chc):=by
  refine CellsAt.row (n:=(cs.length - i)*34) hrow ?_;have h:=congrArg (List.drop (i*34)) htk
  rwa [List.drop_take,hsplit,List.drop_left' hlA,show cs.length*34 - i*34=(cs.length - i)*34 by omega] at h
 have hfin:=ins_row ((cs.take i).flatMap chc) ((cs.drop i).flatMap chc) (chc x) cur (zFK x hx) (by rw[hlA];exact hA) (by rw[hlA,hlB,hsz];omega);rw[hlA,hlB,show i*34+34+(cs.length - i)*34=(cs.length+1)*34 by omega,show i*34+34=(i+1)*34 by omega] at hfin;have HP:Hid (∀(w':World)(cu:Array Value),w'.heap[g]?=some (.cells cu 276 (0,0))→cu=zCT (zCT cur ((i+1)*34) (.agg ((cs.drop i).flatMap chc).toArray)) (i*34) (.agg (chc x).toArray)→w.grownBy w' (some g)→InsPost g cs x i w (.returned (.slice (some ⟨g,0,none⟩) (cs.length+1) cap)) w'):=fun w' cu h1 h2 h3 =>
  ⟨_,rfl,insRd hk hx (by omega) hn hcap h1 (by rw[h2];exact hfin),h3⟩
 generalize InsPost g cs x i w=R at *;have hglt:=zAG hrow;have hvlt:=zAG hv;have HB:=Lib.hid hB;have HL:=Lib.hid hlB;have H1:=Lib.hid (flat_one (cs.drop i));have HX:=Lib.hid (zFK x hx);have HX1:=Lib.hid (zJG x);have Hrow:=Lib.hid hrow;have Hv:=Lib.hid hv;have hni:((cs.length:Nat):Int)≤100000:=by omega
 have hii:((i:Nat):Int)<(cs.length:Nat):=by omega
 have hi0:(0:Int)≤(i:Nat):=by omega
 have hin:(((i:Nat):Int)==(cs.length:Nat))=false:=by
  have h5:¬((i:Nat):Int)=(cs.length:Nat):=by omega
  simpa using h5
 have hgt:¬((cap:Nat):Int)<(cs.length:Nat)+1:=by omega
 have hs0:=zIS g cs.length cap i (by omega) (by omega);have hs1:∀wx,(Instr.slice 235 (.slice (some ⟨g,0,none⟩) cs.length cap) none (some (.int .i64 ((cs.length:Nat)+1))) none).run Tryz.prog wx=.ok (.slice (some ⟨g,0,none⟩) (cs.length+1) cap) wx:=fun wx=>by
  have h:=zIK (P:=Tryz.prog) zDE zCD ⟨g,0,none⟩ cs.length cap .i64 (cs.length+1) hcap rfl wx
  rwa [show ((cs.length+1:Nat):Int)=(cs.length:Nat)+1 by omega] at h
 have hs2:∀wx,(Instr.slice 235 (.slice (some ⟨g,0,none⟩) (cs.length+1) cap) (some (.int .i64 ((i:Nat)+1))) none none).run Tryz.prog wx=.ok (.slice (some ⟨g,(i+1)*34,none⟩) (cs.length - i) (cap - (i+1))) wx:=fun wx=>by
  have h:=zIS g (cs.length+1) cap (i+1) (by omega) (by omega) wx
  rwa [show ((i+1:Nat):Int)=(i:Nat)+1 by omega,show cs.length+1 - (i+1)=cs.length - i by omega] at h
 have hs3:=zIS g (cs.length+1) cap i (by omega) (by omega);have hov:=overlapsC w vb g ((i+1)*34) (cs.length - i) (cap - (i+1)) _ _ hne hv hrow (by rw[hsz];omega);clear hlA hlB hsplit hn34 hA hB hfin hrow hv htk hk;generalize (cs.drop i).flatMap chc=FB at *;go_enter Tryz.func207,Tryz.ntmps207
 go_wp2_with (simp only[hov])
 refine Inv.wp_region_inv 8 (fun wx=>Below w.heap.size w wx) zBL (by kernel_rfl) (Below.refl _ _).drew ?_;simp only[List.take_succ_cons,List.take_zero,List.drop_succ_cons,List.drop_zero]
 iterate 8
  (refine Inv.wpInv_step (fun K hK=>?_);go_simp;apply zAL;· (intro wx hw;go_simp;(try go_ints);(try go_simp);(try (rw[if_pos (by omega)]));(try go_simp);(first | done | rfl))
   refine hK _ ?_;clear hK K)
 refine Inv.wpInv_nil ?_;intro w2 hb2;have hrow2:=(hb2.block g hglt).trans Hrow.out;have hv2:=(hb2.block vb hvlt).trans Hv.out
 go_wp2_with (first
  |(first
    |((with_reducible refine wpList_copyN rfl _ _ 235 276 rfl zDE 34 zCD g ((i+1)*34) (cs.length - i) (cap - (i+1)) rfl g (i*34) (cs.length+1 - i) (cap - i) rfl cur _ hrow2 FB (by rw[HL.out];exact congrArg (·*34) (show cs.length - i=Nat.min (cs.length+1 - i) (cs.length - i) from (Nat.min_eq_right (by omega)).symm)) (HB.out.call hb2) (by rw[HL.out,hsz];omega) H1.out ?_);intro w3 hg3 hrow3;have hv3:=(hg3.block vb (zAG hv2) (fun e=>hne (Option.some.inj e))).trans hv2)
    |((with_reducible refine wpList_copyN rfl _ _ 235 276 rfl zDE 34 zCD g (i*34) (cs.length+1 - i) (cap - i) rfl vb 0 1 1 rfl _ _ hrow3 (chc x) (by rw[HX.out];exact congrArg (·*34) (show 1=Nat.min 1 (cs.length+1 - i) from (Nat.min_eq_left (by omega)).symm)) (CellsAt.row (n:=34) hv3 (by rw[List.drop_zero,List.take_of_length_le (by rw[HX.out];exact Nat.le_refl _)])) (by rw[HX.out,putAt_sizeL _ _ _ (by rw[HL.out,hsz];omega),hsz];omega) (fun u hu=>HX1.out u hu) ?_);intro w4 hg4 hrow4)))
 exact HP.out _ _ hrow4 rfl (((zHE hb2).trans hg3).trans hg4)
end
section
set_option maxHeartbeats 600000
open Go Go.RowKit
attribute [local irreducible] Inv.wpInv Mix.wpUp
theorem infoCh:∃i,Tryz.prog.info? 276=some i∧i.zero=some (.agg (chc ⟨zAH,none,0,0,false⟩).toArray)∧i.size=34∧i.bytes=64:=by
 cases hq:Tryz.prog.info? 276 with
 |none=>have:=zCD;simp[hq] at this
 |some i =>
  have h1:=zeroCh;have h2:=zCD;have h3:=bytesCh;rw[hq] at h1 h2 h3;exact⟨i,rfl,by simpa using h1,by simpa using h2,by simpa using h3⟩
theorem intTy:Tryz.prog.underlying 3=some (.int .i64):=by kernel_rfl
theorem growZeros(cs:List Chg)(i g cap:Nat)(cur:Array Value)(w:World)(hk:KeysCh cs)(hn:cs.length≤100000)(hi:i<cs.length)(hrow:w.heap[g]?=some (.cells cur 276 (0,0)))(hcap:cap=cs.length)(htk:cur.toList.take (cs.length*34)=cs.flatMap chc) :
  ∃(G:Nat) (ROW:Array Value),cs.length+1≤G∧ROW.size=G*34∧ROW.toList.take (i*34)=(cs.take i).flatMap chc ∧
   ∀ty,(Builtin.append_ #[235,3] ty #[.slice (some ⟨g,0,none⟩) i cap,.int .i64 ((cs.length:Nat)+1 - (i:Nat))]).run Tryz.prog w=.ok (.slice (some ⟨w.heap.size,0,none⟩) (cs.length+1) G) (w.drew.alloc (.cells ROW 276)):=by
 have hlA:((cs.take i).flatMap chc).length=i*34:=by
  rw[zEW (fun c hc=>hk.lens c (List.mem_of_mem_take hc)),List.length_take,Nat.min_eq_left (by omega)]
 have hlB:((cs.drop i).flatMap chc).length=(cs.length - i)*34:=by
  rw[zEW (fun c hc=>hk.lens c (List.mem_of_mem_drop hc)),List.length_drop]
 have hsplit:cs.flatMap chc=(cs.take i).flatMap chc++(cs.drop i).flatMap chc:=by rw[←List.flatMap_append,List.take_append_drop]
 have hA:cur.toList.take (i*34)=(cs.take i).flatMap chc:=by
  have h:=congrArg (List.take (i*34)) htk
  rwa [List.take_take,Nat.min_eq_left (by omega),hsplit,List.take_left' hlA] at h
 obtain⟨i0,hi0,hz0,hsz0,hby0⟩:=infoCh;have hz34:(chc ⟨zAH,none,0,0,false⟩).toArray.size=34:=zDS _ (by rfl);generalize (chc ⟨zAH,none,0,0,false⟩).toArray=zc at *;generalize (cs.take i).flatMap chc=FA at *;have hold:(Builtin.firstCells i0.size i (.slice (some ⟨g,0,none⟩) i cap)).run Tryz.prog w.drew=.ok FA.toArray w.drew:=by
  rw[hsz0];refine run_firstCells_some w.drew 34 i ⟨g,0,none⟩ i cap FA hlA (fun j v hj=>?_);have hadd:(⟨g,0,none⟩:Addr).add j=⟨g,0+j,none⟩:=by unfold Addr.add;split<;>simp_all
  rw[hadd];have hrow':w.drew.heap[g]?=some (.cells cur 276 (0,0)):=hrow;exact CellsAt.row (n:=i*34) hrow' (by rw[List.drop_zero];exact hA) j v hj
 have hkk:((cs.length:Nat):Int)+1 - ((i:Nat):Int)=((cs.length+1 - i:Nat):Int):=by omega
 have hik:i+(cs.length+1 - i)=cs.length+1:=by omega
 refine⟨grownCap w (cs.length+1) cap 276,FA.toArray++Builtin.zeroCells zc (cs.length+1 - i)++Builtin.zeroCells zc (grownCap w (cs.length+1) cap 276 - (cs.length+1)),grownCap_ge w _ _ _,?_,?_,fun ty=>?_⟩
 ·have hGn:=grownCap_ge w (cs.length+1) cap 276
  generalize grownCap w (cs.length+1) cap 276=G at *;simp only[Array.size_append,List.size_toArray,Builtin.zeroCells,Array.size_map,Array.size_range,hz34,hlA];omega
 ·rw[Array.toList_append,Array.toList_append,List.append_assoc]
  exact List.take_left' hlA
 ·have h:=Lib.run_append_grow_zeros w 235 3 ty 276 i0 (.agg zc) .i64 .i64 zDE intTy hi0 hz0 (some ⟨g,0,none⟩) i cap FA hold (cs.length+1 - i) (by omega) (by omega) (by omega) (by omega) (by rw[hby0];omega) (by rw[hby0,hik];exact growslice_fits (by omega) (by omega))
  rw[hik] at h;rw[hkk];exact h
set_option maxRecDepth 20000 in
theorem InsertGrow_calls(cs:List Chg)(x:Chg)(i g cap vb:Nat)(cur:Array Value)(w:World)(hk:KeysCh cs)(hx:x.k.length=32)(hn:cs.length≤100000)(hi:i<cs.length)(hrow:w.heap[g]?=some (.cells cur 276 (0,0)))(hcap:cap=cs.length)(htk:cur.toList.take (cs.length*34)=cs.flatMap chc)
  (hv:w.heap[vb]?=some (.cells (chc x).toArray 276 (0,0))) :
  Calls Tryz.prog 207 #[.slice (some ⟨g,0,none⟩) cs.length cap,.int .i64 (i:Nat),.slice (some ⟨vb,0,none⟩) 1 1] w (InsPost g cs x i w):=by
 have hlA:((cs.take i).flatMap chc).length=i*34:=by
  rw[zEW (fun c hc=>hk.lens c (List.mem_of_mem_take hc)),List.length_take,Nat.min_eq_left (by omega)]
 have hlB:((cs.drop i).flatMap chc).length=(cs.length - i)*34:=by
  rw[zEW (fun c hc=>hk.lens c (List.mem_of_mem_drop hc)),List.length_drop]
 have hsplit:cs.flatMap chc=(cs.take i).flatMap chc++(cs.drop i).flatMap chc:=by rw[←List.flatMap_append,List.take_append_drop]
 have hA:cur.toList.take (i*34)=(cs.take i).flatMap chc:=by
  have h:=congrArg (List.take (i*34)) htk
  rwa [List.take_take,Nat.min_eq_left (by omega),hsplit,List.take_left' hlA] at h
 have hB:CellsAt w g (i*34) ((cs.drop i).flatMap chc):=by
  refine CellsAt.row (n:=(cs.length - i)*34) hrow ?_;have h:=congrArg (List.drop (i*34)) htk
  rwa [List.drop_take,hsplit,List.drop_left' hlA,show cs.length*34 - i*34=(cs.length - i)*34 by omega] at h
 obtain⟨G,ROW,hGn,hRs,hRA,hrz⟩:=growZeros cs i g cap cur w hk hn hi hrow hcap htk;have hfin:=ins_row2 ((cs.take i).flatMap chc) ((cs.drop i).flatMap chc) (chc x) ROW (zFK x hx) (by rw[hlA];exact hRA);rw[hlA,hlB,show i*34+34+(cs.length - i)*34=(cs.length+1)*34 by omega,show i*34+34=(i+1)*34 by omega] at hfin;have HP:Hid (∀(w':World)(b:Nat) (cu:Array Value),w'.heap[b]?=some (.cells cu 276 (0,0))→cu=zCT (zCT ROW (i*34) (.agg (chc x).toArray)) ((i+1)*34) (.agg ((cs.drop i).flatMap chc).toArray)→Below w.heap.size w w'→InsPost g cs x i w (.returned (.slice (some ⟨b,0,none⟩) (cs.length+1) G)) w'):=fun w' b cu h1 h2 h3 =>
  ⟨_,rfl,insRd hk hx (by omega) hn hGn h1 (by rw[h2];exact hfin),zHE h3⟩
 generalize InsPost g cs x i w=R at *;have hglt:=zAG hrow;have hvlt:=zAG hv;have HB:=Lib.hid hB;have HL:=Lib.hid hlB;have H1:=Lib.hid (flat_one (cs.drop i));have HX:=Lib.hid (zFK x hx);have HX1:=Lib.hid (zJG x);have Hv:=Lib.hid hv;have hni:((cs.length:Nat):Int)≤100000:=by omega
 have hii:((i:Nat):Int)<(cs.length:Nat):=by omega
 have hi0':(0:Int)≤(i:Nat):=by omega
 have hin:(((i:Nat):Int)==(cs.length:Nat))=false:=by
  have h5:¬((i:Nat):Int)=(cs.length:Nat):=by omega
  simpa using h5
 have hgt:((cap:Nat):Int)<(cs.length:Nat)+1:=by omega
 have hs0:=zIS g cs.length cap i (by omega) (by omega);have hs1:=zIK (P:=Tryz.prog) zDE zCD ⟨g,0,none⟩ cs.length cap .i64 i (by omega) rfl;have hs2:=zIS w.heap.size (cs.length+1) G i (by omega) (by omega);have hs3:∀wx,(Instr.slice 235 (.slice (some ⟨w.heap.size,0,none⟩) (cs.length+1) G) (some (.int .i64 ((i:Nat)+1))) none none).run Tryz.prog wx=.ok (.slice (some ⟨w.heap.size,(i+1)*34,none⟩) (cs.length - i) (G - (i+1))) wx:=fun wx=>by
  have h:=zIS w.heap.size (cs.length+1) G (i+1) (by omega) (by omega) wx
  rwa [show ((i+1:Nat):Int)=(i:Nat)+1 by omega,show cs.length+1 - (i+1)=cs.length - i by omega] at h
 have hbW:Below w.heap.size w (w.drew.alloc (.cells ROW 276)):=(Below.refl _ w).drew.alloc (Nat.le_refl _) _;have hrN:(w.drew.alloc (.cells ROW 276)).heap[w.heap.size]?=some (.cells ROW 276 (0,0)):=World.alloc_heap_new w.drew _;generalize hW1:w.drew.alloc (.cells ROW 276)=W1 at *;clear hlA hlB hsplit hA hB hfin hrow hv htk hk hRA hW1;obtain⟨bN,hbN⟩:∃bN,bN=w.heap.size:=⟨_,rfl⟩
 rw[←hbN] at hrz hs2 hs3 hrN;have hbg:¬bN=g:=by omega
 have hbv:¬bN=vb:=by omega
 have HbN:=Lib.hid hbN;clear hbN;generalize (cs.drop i).flatMap chc=FB at *;have hc1:cap≤cs.length:=Nat.le_of_eq hcap;have hc2:cs.length≤cap:=Nat.le_of_eq hcap.symm;clear hcap;go_enter Tryz.func207,Tryz.ntmps207
 go_wp2_with (first
  |(at_builtin;refine wpList_appendRun rfl _ _ 235 3 rfl _ _ rfl rfl _ _ (hrz _) ?_)
  |((with_reducible refine wpList_copyN rfl _ _ 235 276 rfl zDE 34 zCD bN (i*34) (cs.length+1 - i) (G - i) rfl vb 0 1 1 rfl ROW _ hrN (chc x) (by rw[HX.out];exact congrArg (·*34) (show 1=Nat.min 1 (cs.length+1 - i) from (Nat.min_eq_left (by omega)).symm)) (CellsAt.row (n:=34) ((hbW.block vb hvlt).trans Hv.out) (by rw[List.drop_zero,List.take_of_length_le (by rw[HX.out];exact Nat.le_refl _)])) (by rw[HX.out,hRs];omega) (fun u hu=>HX1.out u hu) ?_);intro w3 hg3 hrow3;have hb3:Below w.heap.size w w3:=hbW.grown hg3 hbW.size (fun k e=>by cases e;exact Nat.le_of_eq HbN.out.symm)))
 refine Inv.wp_region_inv 8 (fun wx=>Below w3.heap.size w3 wx) zBL (by kernel_rfl) (Below.refl _ _).drew ?_;simp only[List.take_succ_cons,List.take_zero,List.drop_succ_cons,List.drop_zero]
 iterate 8
  (refine Inv.wpInv_step (fun K hK=>?_);go_simp;apply zAL;· (intro wx hw;go_simp;(try go_ints);(try go_simp);(try (rw[if_pos (by omega)]));(try go_simp);(first | done | rfl))
   refine hK _ ?_;clear hK K)
 refine Inv.wpInv_nil ?_;intro w4 hb4;have hrow4:=(hb4.block bN (zAG hrow3)).trans hrow3;have hb04:=hb3.trans (hb4.mono hb3.size)
 go_wp2_with (first
  |((with_reducible refine wpList_copyN rfl _ _ 235 276 rfl zDE 34 zCD bN ((i+1)*34) (cs.length - i) (G - (i+1)) rfl g (i*34) (cs.length - i) (cap - i) rfl _ _ hrow4 FB (by rw[HL.out];exact congrArg (·*34) (show cs.length - i=Nat.min (cs.length - i) (cs.length - i) from (Nat.min_self _).symm)) (HB.out.call hb04) (by rw[HL.out,putAt_sizeL _ _ _ (by rw[HX.out,hRs];omega),hRs];omega) H1.out ?_);intro w5 hg5 hrow5))
 exact HP.out _ _ _ hrow5 rfl (hb04.grown hg5 hb04.size (fun k e=>by cases e;exact Nat.le_of_eq HbN.out.symm))
theorem Insert_calls(cs:List Chg)(x:Chg)(i g cap vb:Nat)(cur:Array Value)(w:World)(hk:KeysCh cs)(hx:x.k.length=32)(hn:cs.length≤100000)(hi:i≤cs.length)(hrow:w.heap[g]?=some (.cells cur 276 (0,0)))(hcap:cs.length≤cap)(hcap2:cap≤maxLen)(hsz:cur.size=cap*34)(htk:cur.toList.take (cs.length*34)=cs.flatMap chc)
  (hv:w.heap[vb]?=some (.cells (chc x).toArray 276 (0,0))) (hne:vb≠g) :
  Calls Tryz.prog 207 #[.slice (some ⟨g,0,none⟩) cs.length cap,.int .i64 (i:Nat),.slice (some ⟨vb,0,none⟩) 1 1] w (InsPost g cs x i w):=by
 by_cases h1:i=cs.length
 ·subst h1
  exact InsertEnd_calls cs x g cap vb cur w hk hx hn hrow hcap hcap2 hsz htk hv
 ·by_cases h2:cs.length+1≤cap
  ·exact InsertRoom_calls cs x i g cap vb cur w hk hx hn (by omega) hrow h2 hsz htk hv hne
  ·exact InsertGrow_calls cs x i g cap vb cur w hk hx hn (by omega) hrow (by omega) htk hv
end
section
set_option maxHeartbeats 2000000
open Go Go.RowKit
attribute [local irreducible] Inv.wpInv Mix.wpUp
theorem cmpL_trans:∀(a b c:List Nat),a.length=b.length→b.length=c.length→zDV a b<0→zDV b c<0→zDV a c<0
 |[],[],[],_,_,h,_=>h
 |x::a,y::b,z::c,h1,h2,h3,h4=>by
  have ih:=cmpL_trans a b c (by simpa using h1) (by simpa using h2);unfold zDV at h3 h4 ⊢
  by_cases e1:x<y
  ·by_cases e2:y<z
   ·rw[if_pos (by omega)];decide
   ·by_cases e3:z<y
    ·rw[if_neg e2,if_pos e3] at h4;exact absurd h4 (by decide)
    ·rw[if_pos (by omega)];decide
  ·by_cases e0:y<x
   ·rw[if_neg e1,if_pos e0] at h3;exact absurd h3 (by decide)
   ·rw[if_neg e1,if_neg e0] at h3
    obtain rfl:x=y:=by omega
    by_cases e2:x<z
    ·rw[if_pos e2];decide
    ·by_cases e3:z<x
     ·rw[if_neg e2,if_pos e3] at h4;exact absurd h4 (by decide)
     ·rw[if_neg e2,if_neg e3] at h4
      rw[if_neg e2,if_neg e3];exact ih h3 h4
theorem cmpL_eq:∀(a b:List Nat),a.length=b.length→zDV a b=0→a=b
 |[],[],_,_=>rfl
 |x::a,y::b,h1,h=>by
  unfold zDV at h
  by_cases e1:x<y
  ·rw[if_pos e1] at h;exact absurd h (by decide)
  ·by_cases e2:y<x
   ·rw[if_neg e1,if_pos e2] at h;exact absurd h (by decide)
   ·rw[if_neg e1,if_neg e2] at h
    obtain rfl:x=y:=by omega
    rw[cmpL_eq a b (by simpa using h1) h]
def AscCh(cs:List Chg):Prop:=cs.Pairwise fun a b=>zDV a.k b.k<0
theorem AscCh.mono{cs:List Chg}(h:AscCh cs)(hk:KeysCh cs){k:List Nat}(hkk:Key k):∀x y (hx:x<cs.length) (hy:y<cs.length),x≤y→zDV cs[y].k k<0→zDV cs[x].k k<0:=fun x y hx hy hxy hc=>by
 rcases Nat.lt_or_ge x y with hlt | hge
 ·exact cmpL_trans _ _ _ ((hk _ (List.getElem_mem _)).len.trans (hk _ (List.getElem_mem _)).len.symm) ((hk _ (List.getElem_mem _)).len.trans hkk.len.symm) (List.pairwise_iff_getElem.1 h x y hx hy hlt) hc
 ·obtain rfl:x=y:=by omega
  exact hc
theorem shapeCh:shapeZ Tryz.prog 276=some ((chc ⟨zAH,none,0,0,false⟩).toArray,[(0,32),(32,1),(33,1)]):=by kernel_rfl
theorem putCh_key(k' k:List Nat)(h':k'.length=32)(h:k.length=32)(a:Option Addr)(n c:Nat)(d:Bool):zCT (chc ⟨k',a,n,c,d⟩).toArray 0 (.agg (kv k))=(chc ⟨k,a,n,c,d⟩).toArray:=by
 have e:=zEB [] (zAJ k') [.slice a n c,.bool d] (.agg (kv k)) 0 rfl (by show _=(kv k).size;rw[zAI,zAF,h,h']);simp only[Value.cells,zCJ,List.nil_append] at e;exact e
theorem putCh_slice(k:List Nat)(h:k.length=32)(a a':Option Addr)(n c n' c':Nat)(d:Bool):zCT (chc ⟨k,a,n,c,d⟩).toArray 32 (.slice a' n' c')=(chc ⟨k,a',n',c',d⟩).toArray:=by
 have e:=zEB (zAJ k) [.slice a n c] [.bool d] (.slice a' n' c') 32 (by rw[zAI,h]) rfl;exact e
theorem putCh_del(k:List Nat)(h:k.length=32)(a:Option Addr)(n c:Nat)(d d':Bool):zCT (chc ⟨k,a,n,c,d⟩).toArray 33 (.bool d')=(chc ⟨k,a,n,c,d'⟩).toArray:=by
 have e:=zEB (zAJ k++[.slice a n c]) [.bool d] [] (.bool d') 33 (by rw[List.length_append,zAI,h];rfl) rfl;have e1:(zAJ k++[Value.slice a n c])++([.bool d]++[])=chc ⟨k,a,n,c,d⟩:=by simp[chc]
 have e2:(zAJ k++[Value.slice a n c])++((Value.bool d').cells.toList++[])=chc ⟨k,a,n,c,d'⟩:=by simp[chc,Value.cells]
 rw[e1,e2] at e;exact e
theorem builtCh2(k:List Nat)(h:k.length=32)(a:Option Addr)(n c:Nat):Tryz.prog.built 276 [(0,.agg (kv k)),(1,.slice a n c)]=some (chc ⟨k,a,n,c,false⟩).toArray:=by
 have hk:(kv k).size=32:=by rw[zAF,h]
 have hz:zAH.length=32:=rfl;rw[built_fill shapeCh,zEK (off:=0) (by simp[Value.cells,hk]) (by rw[zDS _ hz];simp[Value.cells,hk]),putCh_key _ _ hz h,zEK (off:=32) rfl (by rw[zDS _ h];simp[Value.cells]),putCh_slice _ h];rfl
theorem builtCh3(k:List Nat)(h:k.length=32)(a:Option Addr)(n c:Nat)(d:Bool):Tryz.prog.built 276 [(0,.agg (kv k)),(1,.slice a n c),(2,.bool d)]=some (chc ⟨k,a,n,c,d⟩).toArray:=by
 have hk:(kv k).size=32:=by rw[zAF,h]
 have hz:zAH.length=32:=rfl;rw[built_fill shapeCh,zEK (off:=0) (by simp[Value.cells,hk]) (by rw[zDS _ hz];simp[Value.cells,hk]),putCh_key _ _ hz h,zEK (off:=32) rfl (by rw[zDS _ h];simp[Value.cells]),putCh_slice _ h,zEK (off:=33) rfl (by rw[zDS _ h];simp[Value.cells]),putCh_del _ h];rfl
theorem fillCh(X:Array Value)(hX:X.size=34):Instr.fill (fun i=>some (i*34,34)) ((Array.range (1*34)).map ((Value.agg (chc ⟨zAH,none,0,0,false⟩).toArray).cells[·%(Value.agg (chc ⟨zAH,none,0,0,false⟩).toArray).cells.size]!)) [(0,.agg X)]=some X:=fillOne 34 hX
theorem fieldSt{w w4:World}{B b5:Nat}{k:List Nat}{a:Option Addr}{n c:Nat}(hk:k.length=32){L:List (Nat×Array Value×TypeId)}{t:TypeId}(st:St B w ((b5,zAV k (.slice a n c),t)::L) w4):w4.cell? ⟨b5,32,none⟩=some (.slice a n c):=by
 rw[st.cell (i:=0) rfl 32];unfold zAV;rw[Array.getElem?_append_right (by rw[zAF];omega),zAF,hk];rfl
def MergePost(cs:List Chg)(l:Value)(k v:List Nat)(w:World)(e:Ending)(w':World):Prop:=Below w.heap.size w w' ∧
 ((e=.returned l∧∃c∈cs,c.k=k)∨∃(v':Value) (s:Nat) (x:Chg),e=.returned v'∧s≤cs.length∧(∀z (h:z<cs.length),z<s→zDV cs[z].k k<0)∧(∀z (h:z<cs.length),s≤z→0<zDV cs[z].k k)∧x.k=k∧x.del=false∧x.vn=v.length∧RdB w' (.slice x.va x.vn x.vc) v∧RdCh w' v' (cs.take s++x::cs.drop s))
set_option maxRecDepth 20000 in
theorem Merge_calls(KK:List Int)(bits:Int)(cs:List Chg)(l:Value)(k v:List Nat)(p:Option Addr)(w:World)(hk:KeysCh cs)(hasc:AscCh cs)(hne:cs≠[])(hn:cs.length≤100000)(hv:RdCh w l cs)(ht:RepT KK bits w p (.leaf k v)) :
  Calls Tryz.prog 180 #[.pointer p,l] w (MergePost cs l k v w):=by
 have hkk:Key k:=by obtain⟨_,_,_,_,_,_,h,_⟩:=ht;exact h
 have HV:=Lib.hid hv;obtain⟨la,lc,rfl,_⟩:=hv.form;have HP1:Hid (∀(w':World),Below w.heap.size w w'→(∃c∈cs,c.k=k)→MergePost cs (.slice la cs.length lc) k v w (.returned (.slice la cs.length lc)) w'):=fun w' h1 h2=>⟨h1,.inl ⟨rfl,h2⟩⟩
 have HP2:Hid (∀(w':World)(v':Value) (s:Nat) (x:Chg),Below w.heap.size w w'→s≤cs.length→(∀z (h:z<cs.length),z<s→zDV cs[z].k k<0)→(∀z (h:z<cs.length),s≤z→0<zDV cs[z].k k)→x.k=k→x.del=false→x.vn=v.length→RdB w' (.slice x.va x.vn x.vc) v→RdCh w' v' (cs.take s++x::cs.drop s)→MergePost cs (.slice la cs.length lc) k v w (.returned v') w'):=fun w' v' s x h1 h2 h3 h4 h5 h6 h7 h8 h9=>⟨h1,.inr ⟨v',s,x,rfl,h2,h3,h4,h5,h6,h7,h8,h9⟩⟩
 generalize MergePost cs (.slice la cs.length lc) k v w=R at *;have HE:=Lib.hid (Entry_calls KK bits k v p w ht);have Hkl:=Lib.hid hkk.len;have HB:=Lib.hid (fun wx h=>BinSearch_calls cs (.slice la cs.length lc) k hkk wx hk hn h (hasc.mono hk hkk));have HK:=Lib.hid hk;have HEq:Hid (∀z (h:z<cs.length),zDV cs[z].k k=0→cs[z].k=k):=fun z h hc=>cmpL_eq _ _ ((hk _ (List.getElem_mem _)).len.trans hkk.len.symm) hc
 obtain⟨ze,hze,hz0⟩:=zEA;have hn0:0<cs.length:=List.length_pos_iff.2 hne;have HPos:Hid (∀s,(∀h:s<cs.length,zDV cs[s].k k≠0)→(∀z (h:z<cs.length),s≤z→0≤zDV cs[z].k k)→∀z (h:z<cs.length),s≤z→0<zDV cs[z].k k):=fun s h1 h2 z hz hsz=>by
  rcases Nat.lt_or_ge s z with hlt | hge
  ·have hs:s<cs.length:=by omega
   have h3:=h1 hs;have h4:=h2 s hs (Nat.le_refl _);have h5:zDV k cs[s].k<0:=by rw[zJE];omega
   have h6:=cmpL_trans _ _ _ (hkk.len.trans (hk _ (List.getElem_mem _)).len.symm) ((hk _ (List.getElem_mem _)).len.trans (hk _ (List.getElem_mem _)).len.symm) h5 (List.pairwise_iff_getElem.1 hasc s z hs hz hlt);rw[zJE] at h6;omega
  ·obtain rfl:s=z:=by omega
   have h3:=h1 hz;have h4:=h2 s hz (Nat.le_refl _);omega
 clear hv ht hasc hk hkk;have st:=St.init w;go_enter Tryz.func180,Tryz.ntmps180
 go_wp2_with (first
  |(go_at_call 150;refine HE.out.mono ?_;rintro e w1 ⟨ea,ec,rfl,hrd,hb1⟩;have st1:=st.call hb1;have HRd:=Lib.hid hrd;have HES:=Lib.hid (zBM k (.slice ea v.length ec) Hkl.out);have HE1:=Lib.hid (zCM k ea v.length ec);have Hp:=Lib.hid (zDJ k (.slice ea v.length ec) Hkl.out);have HFi:=Lib.hid (fun (w4:World) (b5:Nat) (st:St w.heap.size w [(b5,zAV k (.slice ea v.length ec),52)] w4)=>fieldSt Hkl.out st);clear st hrd;generalize zAV k (.slice ea v.length ec)=en at *)
  |((with_reducible refine zAW 52 ?_);refine zIW st1 rfl 52 rfl (.agg ze) hz0 ?_;intro b5 w2 st2 hbg hb2;have hRd2:=HRd.out.call hb2;clear st1)
  |((with_reducible refine zAN 52 ?_);refine zCW st2 rfl 52 _ _ rfl 0 b5 rfl (.agg en) rfl _ _ rfl (zBU HES.out) (by show en.size=ze.size;rw[HES.out,hze]) HE1.out _ rfl ?_;intro w3 st3 hg3)
  |((with_reducible refine zBA 37 ?_);refine zAP rfl 37 _ rfl b5 0 32 rfl zBN _ _ _ (st3.at (i:=0) rfl) zBC (by show 0+32≤en.size;rw[HES.out];decide) _ Hp.out ?_)
  |(go_at_call 205;refine(HB.out _ (HV.out.call st3.below)).mono ?_;rintro e w4 ⟨s,found,rfl,hs,h0,h1,hf,hnf,hb4⟩))
 ·rename_i hfound
  obtain⟨hsl,hc0⟩:=hf hfound;exact HP1.out _ (st3.below.trans (hb4.mono st3.size)) ⟨cs[s],List.getElem_mem _,HEq.out s hsl hc0⟩
 ·have hb13:Below w1.heap.size w1 w3:=hb2.grown hg3 hb2.size (fun k e=>by cases e;exact hbg)
  have HRd4:=Lib.hid (HRd.out.call (hb13.trans (hb4.mono hb13.size)));have st4:St w.heap.size w [(b5,en,52)] w4:=st3.call hb4;have H1:=Lib.hid (HPos.out s (hnf (by first | assumption | (simpa using ‹¬found=true›))) h1);have H0:=Lib.hid h0;have HCl:=Lib.hid (fun wx h=>CloneCh_calls cs (.slice la cs.length lc) wx hne HK.out hn h);have hc5:=HFi.out w4 b5 st4;have q:∀wx:World,wx.heap[b5]?=some (.cells en 52 (0,0))→wx.cell? ⟨b5,32,none⟩=some (.slice ea v.length ec):=fun wx h=>by
   have h5:w4.cell? ⟨b5,32,none⟩=wx.cell? ⟨b5,32,none⟩:=by simp[World.cell?,h,st4.at (i:=0) rfl]
   rw[←h5];exact hc5
  clear h0 h1 hf hnf HPos HEq HP1 hRd2 HRd HFi hb13;refine Mix2.wp_region_mix (J:=fun wx=>wx.heap[b5]?=some (.cells en 52 (0,0))) 10 (fun wx=>St w.heap.size w [(b5,en,52)] wx∧Below w4.heap.size w4 wx) zBL (by kernel_rfl) ⟨st4.drew,(Below.refl _ _).drew⟩ ?_;intro F inv;refine Mix2.good_batch (f:=3) F (fun _ _ h hb=>⟨h.1.call hb,h.2.trans (hb.mono h.2.size)⟩) (fun _ h=>h.1.at (i:=0) rfl) [0,2,3,4,5,6,7] _ _ inv (by kernel_rfl) ?_;clear inv
  iterate 3
   (refine Mix.wpUp_cons rfl (fun K hK=>?_);go_simp;apply zAU;· (intro wx hw;go_simp;(try go_ints);(try go_simp);(try (rw[if_pos (by omega)]));(try go_simp);(first | done | rfl))
    refine hK _ ?_;clear hK K)
  (refine Mix.wpUp_cons rfl (fun K hK=>?_);go_simp;refine zHS 37 _ rfl b5 0 32 rfl zBN _ _ (fun wx hw=>hw) zBC (by rw[HES.out];decide) _ Hp.out ?_
   refine hK _ ?_;clear hK K)
  iterate 1
   (refine Mix.wpUp_cons rfl (fun K hK=>?_);go_simp;apply zAU;· (intro wx hw;go_simp;(try go_ints);(try go_simp);(try (rw[if_pos (by omega)]));(try go_simp);(first | done | rfl))
    refine hK _ ?_;clear hK K)
  iterate 1
   (refine Mix.wpUp_cons rfl (fun K hK=>?_);go_simp;apply zAU;· (intro wx hw;have q1:=q wx hw;go_simp;(try go_ints);(try go_simp);(try (rw[if_pos (by omega)]));(try go_simp);(first | done | rfl))
    refine hK _ ?_;clear hK K)
  (refine Mix.wpUp_cons rfl (fun K hK=>?_);go_simp;refine zFN 276 _ rfl [(0,.agg (kv k)),(1,.slice ea v.length ec)] (by first | (simp[Act.eval];done) | rfl) _ (builtCh2 k Hkl.out ea v.length ec) ?_
   refine hK _ ?_;clear hK K)
  refine Mix.wpUp_nil ?_;intro inv;clear q hc5 st4;refine Mix2.good_two (i:=1) (k:=8) (f:=2) (by kernel_rfl) inv (fun w5 h5=>?_) (fun w5 h5=>?_)
  ·clear inv
   obtain⟨st5,hb45⟩:=h5;refine zAT rfl rfl 182 #[.slice la cs.length lc] (by go_simp) ?_;refine(HCl.out _ (HV.out.call (St.below st5))).mono ?_;rintro e w6 ⟨vc,rfl,hown6,hb6⟩;obtain⟨g,cap,cur,rfl,hbg6,hrow6,hcap,hcap2,hsz,htk⟩:∃g cap cur,vc=.slice (some ⟨g,0,none⟩) cs.length cap∧w5.heap.size≤g∧w6.heap[g]?=some (.cells cur 276 (0,0))∧cs.length≤cap∧cap≤maxLen∧cur.size=cap*34∧cur.toList.take (cs.length*34)=cs.flatMap chc:=by
    rcases hown6.2 with ⟨_,h0⟩ | h
    ·omega
    ·exact h
   have Htk:=Lib.hid htk;have hg4:w4.heap.size≤g:=Nat.le_trans hb45.size hbg6;have st6:=st5.callNew hb6 hbg6 hrow6;clear htk;refine⟨_,rfl,fun wx=>St w.heap.size w [(g,cur,276),(b5,en,52)] wx∧Below w4.heap.size w4 wx,fun _ _ h hb=>⟨h.1.call hb,h.2.trans (hb.mono h.2.size)⟩,⟨st6,hb45.trans (hb6.mono hb45.size)⟩,fun _ h=>h.1.at (i:=1) rfl,fun inv=>?_⟩;clear st5 hown6 hb6 hrow6 st6 hbg6 hb45;refine Mix2.good_one (i:=8) (f:=1) (by kernel_rfl) inv (fun w5 h5=>?_);clear inv;obtain⟨st5,hb45⟩:=h5;simp only[Act.put,List.getElem_toArray,List.getElem_cons_succ,List.getElem_cons_zero,List.setIfInBounds_toArray,List.set_cons_succ,List.set_cons_zero];refine zBQ st5 rfl rfl 235 1 _ rfl 276 zDE _ 34 zeroCh zCD (by decide) (by decide) [(0,.agg (chc ⟨k,ea,v.length,ec,false⟩).toArray)] (by first | (simp[Act.eval];done) | (simp[Act.eval,Act.put];done) | rfl) _ (fillCh _ (zDS _ Hkl.out)) ?_;intro vb w6 st6 hb6;refine⟨fun wx=>St w.heap.size w [(vb,(chc ⟨k,ea,v.length,ec,false⟩).toArray,276),(g,cur,276),(b5,en,52)] wx∧Below w4.heap.size w4 wx,fun _ _ h hb=>⟨h.1.call hb,h.2.trans (hb.mono h.2.size)⟩,⟨st6,hb45.trans (hb6.mono hb45.size)⟩,fun _ h=>h.1.at (i:=2) rfl,fun inv=>?_⟩
   clear st5 st6 hb6 hb45;refine Mix2.good_one (i:=9) (f:=0) (by kernel_rfl) inv (fun w9 h9=>?_);clear inv;obtain⟨st9,hb49⟩:=h9;have hne2:vb≠g:=by
    have:=st9.nodup;simp at this;omega
   have hb5r:=st9.at (i:=2) rfl;have hbg5:b5≠g:=by
    have:=st9.nodup;simp at this;omega
   refine zAT rfl rfl 207 #[.slice (some ⟨g,0,none⟩) cs.length cap,.int .i64 (s:Nat),.slice (some ⟨vb,0,none⟩) 1 1] (by go_simp) ?_;refine(Insert_calls cs ⟨k,ea,v.length,ec,false⟩ s g cap vb cur w9 HK.out Hkl.out hn hs (st9.at (i:=1) rfl) hcap hcap2 hsz Htk.out (st9.at (i:=0) rfl) hne2).mono ?_;rintro e w10 ⟨v',rfl,hrd10,hg10⟩;have hrdv:=HRd4.out.call (hb49.grown hg10 hb49.size (fun k e=>by cases e;exact hg4));have hbw:=(St.below st9).grown hg10 (St.size st9) (fun k e=>by cases e;exact Nat.le_trans st3.size (Nat.le_trans hb4.size hg4));have hb5r':=(hg10.block b5 (zAG hb5r) (fun e=>hbg5 (Option.some.inj e))).trans hb5r;refine⟨_,rfl,fun wx=>(Below w.heap.size w wx∧w.heap.size≤wx.heap.size)∧RdB wx (.slice ea v.length ec) v∧RdCh wx v' (cs.take s++⟨k,ea,v.length,ec,false⟩::cs.drop s)∧wx.heap[b5]?=some (.cells en 52 (0,0)),fun _ _ h hb=>⟨⟨h.1.1.trans (hb.mono h.1.2),Nat.le_trans h.1.2 hb.size⟩,h.2.1.call hb,h.2.2.1.call hb,(hb.block _ (zAG h.2.2.2)).trans h.2.2.2⟩,⟨⟨hbw,Nat.le_trans (St.size st9) hg10.size⟩,hrdv,hrd10,hb5r'⟩,fun wx h=>h.2.2.2,fun inv=>?_⟩;clear hrd10 hrdv hbw st9 hb49 hg10 inv F hb5r hb5r';refine⟨by kernel_rfl,fun w11 ⟨h1',h2',h3',_⟩=>?_⟩
   simp only[List.drop_succ_cons,List.drop_zero];have HA:=Lib.hid h2';have HC:=Lib.hid h3';clear h2' h3';go_wp2;exact HP2.out _ _ s ⟨k,ea,v.length,ec,false⟩ h1'.1 hs H0.out H1.out rfl rfl rfl HA.out HC.out
  ·clear inv
   obtain⟨st5,hb45⟩:=h5;refine zBQ st5 rfl rfl 235 1 _ rfl 276 zDE _ 34 zeroCh zCD (by decide) (by decide) [(0,.agg (chc ⟨k,ea,v.length,ec,false⟩).toArray)] (by first | (simp[Act.eval];done) | (simp[Act.eval,Act.put];done) | rfl) _ (fillCh _ (zDS _ Hkl.out)) ?_;intro vb w6 st6 hb6;refine⟨fun wx=>St w.heap.size w [(vb,(chc ⟨k,ea,v.length,ec,false⟩).toArray,276),(b5,en,52)] wx∧Below w4.heap.size w4 wx,fun _ _ h hb=>⟨h.1.call hb,h.2.trans (hb.mono h.2.size)⟩,⟨st6,hb45.trans (hb6.mono hb45.size)⟩,fun _ h=>h.1.at (i:=1) rfl,fun inv=>?_⟩;clear st5 st6 hb6 hb45;refine Mix2.good_one (i:=1) (f:=1) (by kernel_rfl) inv (fun w5 h5=>?_);clear inv;obtain⟨st5,hb45⟩:=h5;refine zAT rfl rfl 182 #[.slice la cs.length lc] (by go_simp) ?_;refine(HCl.out _ (HV.out.call (St.below st5))).mono ?_;rintro e w6 ⟨vc,rfl,hown6,hb6⟩;obtain⟨g,cap,cur,rfl,hbg6,hrow6,hcap,hcap2,hsz,htk⟩:∃g cap cur,vc=.slice (some ⟨g,0,none⟩) cs.length cap∧w5.heap.size≤g∧w6.heap[g]?=some (.cells cur 276 (0,0))∧cs.length≤cap∧cap≤maxLen∧cur.size=cap*34∧cur.toList.take (cs.length*34)=cs.flatMap chc:=by
    rcases hown6.2 with ⟨_,h0⟩ | h
    ·omega
    ·exact h
   have Htk:=Lib.hid htk;have hg4:w4.heap.size≤g:=Nat.le_trans hb45.size hbg6;have st6:=st5.callNew hb6 hbg6 hrow6;clear htk;refine⟨_,rfl,fun wx=>St w.heap.size w [(g,cur,276),(vb,(chc ⟨k,ea,v.length,ec,false⟩).toArray,276),(b5,en,52)] wx∧Below w4.heap.size w4 wx,fun _ _ h hb=>⟨h.1.call hb,h.2.trans (hb.mono h.2.size)⟩,⟨st6,hb45.trans (hb6.mono hb45.size)⟩,fun _ h=>h.1.at (i:=2) rfl,fun inv=>?_⟩;clear st5 hown6 hb6 hrow6 st6 hbg6 hb45;refine Mix2.good_one (i:=9) (f:=0) (by kernel_rfl) inv (fun w9 h9=>?_);clear inv;obtain⟨st9,hb49⟩:=h9;have hne2:vb≠g:=by
    have:=st9.nodup;simp at this;omega
   have hb5r:=st9.at (i:=2) rfl;have hbg5:b5≠g:=by
    have:=st9.nodup;simp at this;omega
   refine zAT rfl rfl 207 #[.slice (some ⟨g,0,none⟩) cs.length cap,.int .i64 (s:Nat),.slice (some ⟨vb,0,none⟩) 1 1] (by go_simp) ?_;refine(Insert_calls cs ⟨k,ea,v.length,ec,false⟩ s g cap vb cur w9 HK.out Hkl.out hn hs (st9.at (i:=0) rfl) hcap hcap2 hsz Htk.out (st9.at (i:=1) rfl) hne2).mono ?_;rintro e w10 ⟨v',rfl,hrd10,hg10⟩;have hrdv:=HRd4.out.call (hb49.grown hg10 hb49.size (fun k e=>by cases e;exact hg4));have hbw:=(St.below st9).grown hg10 (St.size st9) (fun k e=>by cases e;exact Nat.le_trans st3.size (Nat.le_trans hb4.size hg4));have hb5r':=(hg10.block b5 (zAG hb5r) (fun e=>hbg5 (Option.some.inj e))).trans hb5r;refine⟨_,rfl,fun wx=>(Below w.heap.size w wx∧w.heap.size≤wx.heap.size)∧RdB wx (.slice ea v.length ec) v∧RdCh wx v' (cs.take s++⟨k,ea,v.length,ec,false⟩::cs.drop s)∧wx.heap[b5]?=some (.cells en 52 (0,0)),fun _ _ h hb=>⟨⟨h.1.1.trans (hb.mono h.1.2),Nat.le_trans h.1.2 hb.size⟩,h.2.1.call hb,h.2.2.1.call hb,(hb.block _ (zAG h.2.2.2)).trans h.2.2.2⟩,⟨⟨hbw,Nat.le_trans (St.size st9) hg10.size⟩,hrdv,hrd10,hb5r'⟩,fun wx h=>h.2.2.2,fun inv=>?_⟩;clear hrd10 hrdv hbw st9 hb49 hg10 inv F hb5r hb5r';refine⟨by kernel_rfl,fun w11 ⟨h1',h2',h3',_⟩=>?_⟩
   simp only[List.drop_succ_cons,List.drop_zero];have HA:=Lib.hid h2';have HC:=Lib.hid h3';clear h2' h3';go_wp2;exact HP2.out _ _ s ⟨k,ea,v.length,ec,false⟩ h1'.1 hs H0.out H1.out rfl rfl rfl HA.out HC.out
end
section
open Go Go.RowKit
abbrev CV:=Chg×List Nat
def zGI(es:List Ent)(cvs:List CV):List Ent:=(es.filter fun e=>!cvs.any fun p=>decide (p.1.k=e.1))++(cvs.filter fun p=>!p.1.del).map fun p=>(p.1.k,p.2)
def zFJ(cvs:List CV)(d b:Nat):List CV:=cvs.filter fun p=>decide (zBO p.1.k d=b)
theorem appE_none(es:List Ent):zGI es []=es:=by simp[zGI]
theorem appE_part(es:List Ent)(cvs:List CV)(d b:Nat):zBY (zGI es cvs) d b=zGI (zBY es d b) (zFJ cvs d b):=by
 unfold zBY zGI zFJ;rw[List.filter_append,List.filter_filter,List.filter_filter,List.filter_map,List.filter_filter,List.filter_filter]
 congr 1
 ·refine List.filter_congr fun e _=>?_
  by_cases h:zBO e.1 d=b
  ·have e1:(cvs.filter fun p=>decide (zBO p.1.k d=b)).any (fun p=>decide (p.1.k=e.1))=cvs.any (fun p=>decide (p.1.k=e.1)):=by
    rw[Bool.eq_iff_iff,List.any_eq_true,List.any_eq_true];constructor
    ·rintro⟨x,hx,hk⟩
     exact⟨x,(List.mem_filter.1 hx).1,hk⟩
    ·rintro⟨x,hx,hk⟩
     exact⟨x,List.mem_filter.2 ⟨hx,by rw[of_decide_eq_true hk];exact decide_eq_true h⟩,hk⟩
   rw[e1,Bool.and_comm]
  ·simp[h]
 ·congr 1
  exact List.filter_congr fun p _=>Bool.and_comm _ _
theorem split_parts(cvs:List CV)(d s:Nat)(h0:∀x (hx:x<cvs.length),x<s→zBO cvs[x].1.k d=0)(h1:∀x (hx:x<cvs.length),s≤x→zBO cvs[x].1.k d=1):zFJ cvs d 0=cvs.take s∧zFJ cvs d 1=cvs.drop s:=by
 have a0:∀p∈cvs.take s,zBO p.1.k d=0:=fun p hp=>by
  obtain⟨x,hx,rfl⟩:=List.getElem_of_mem hp;rw[List.length_take] at hx;rw[List.getElem_take];exact h0 x (by omega) (by omega)
 have a1:∀p∈cvs.drop s,zBO p.1.k d=1:=fun p hp=>by
  obtain⟨x,hx,rfl⟩:=List.getElem_of_mem hp;rw[List.length_drop] at hx;rw[List.getElem_drop];exact h1 (s+x) (by omega) (by omega)
 have sp:∀b,zFJ cvs d b=(cvs.take s).filter (fun p=>decide (zBO p.1.k d=b))++(cvs.drop s).filter (fun p=>decide (zBO p.1.k d=b)):=fun b=>by
  unfold zFJ;rw[←List.filter_append,List.take_append_drop]
 constructor
 ·rw[sp,List.filter_eq_self.2 (fun p hp=>decide_eq_true (a0 p hp)),List.filter_eq_nil_iff.2 (fun p hp=>by rw[a1 p hp];decide),List.append_nil]
 ·rw[sp,List.filter_eq_self.2 (fun p hp=>decide_eq_true (a1 p hp)),List.filter_eq_nil_iff.2 (fun p hp=>by rw[a0 p hp];decide),List.nil_append]
structure ApOK (es:List Ent)(cvs:List CV)(d:Nat):Prop where
 dist:DistB es d
 asc:AscCh (cvs.map (·.1))
 key:∀p∈cvs,Key p.1.k
 pre:∀p∈cvs,∀q∈cvs,∀j<d,zBO p.1.k j=zBO q.1.k j
 pe:∀p∈cvs,∀e∈es,∀j<d,zBO p.1.k j=zBO e.1 j
theorem ApOK.part{es:List Ent}{cvs:List CV}{d:Nat}(h:ApOK es cvs d)(b:Nat):ApOK (zBY es d b) (zFJ cvs d b) (d+1):=by
 refine⟨h.dist.part b,List.Pairwise.sublist (List.Sublist.map _ List.filter_sublist) h.asc,fun p hp=>h.key p (List.mem_filter.1 hp).1,fun p hp q hq j hj=>?_,fun p hp e he j hj=>?_⟩
 ·obtain⟨p1,p2⟩:=List.mem_filter.1 hp
  obtain⟨q1,q2⟩:=List.mem_filter.1 hq
  by_cases hjd:j<d
  ·exact h.pre p p1 q q1 j hjd
  ·obtain rfl:j=d:=by omega
   exact(of_decide_eq_true p2).trans (of_decide_eq_true q2).symm
 ·obtain⟨p1,p2⟩:=List.mem_filter.1 hp
  obtain⟨q1,q2⟩:=List.mem_filter.1 he
  by_cases hjd:j<d
  ·exact h.pe p p1 e q1 j hjd
  ·obtain rfl:j=d:=by omega
   exact(of_decide_eq_true p2).trans (of_decide_eq_true q2).symm
theorem half_step'(x r:Nat)(hr:r<8):x / 2^(7 - r)=2*(x / 2^(8 - r))+x / 2^(7 - r)%2:=by
 have h:x / 2^(8 - r)=x / 2^(7 - r) / 2:=by
  rw[show 8 - r=(7 - r)+1 by omega,Nat.pow_succ,←Nat.div_div_eq_div_mul]
 rw[h];omega
theorem tops_same'(x y:Nat)(hx:x<256)(hy:y<256):∀r≤8,(∀s<r,x / 2^(7 - s)%2=y / 2^(7 - s)%2)→x / 2^(8 - r)=y / 2^(8 - r)
 |0,_,_=>by
  rw[Nat.div_eq_of_lt (show x<2^(8 - 0) from hx),Nat.div_eq_of_lt (show y<2^(8 - 0) from hy)]
 |r+1,hr,h=>by
  have ih:=tops_same' x y hx hy r (by omega) (fun s hs=>h s (by omega));have h1:=half_step' x r (by omega);have h2:=half_step' y r (by omega);have h3:=h r (by omega);rw[show 8 - (r+1)=7 - r by omega];omega
theorem byte_order'(x y r:Nat)(hx:x<256)(hy:y<256)(hr:r<8)(h:∀s<r,x / 2^(7 - s)%2=y / 2^(7 - s)%2)(hd:x / 2^(7 - r)%2≠y / 2^(7 - r)%2) :
  (x<y↔x / 2^(7 - r)%2=0):=by
 have ht:=tops_same' x y hx hy r (by omega) h;have h1:=half_step' x r hr;have h2:=half_step' y r hr;have hp:0<2^(7 - r):=Nat.two_pow_pos _;have b1:x / 2^(7 - r)%2<2:=Nat.mod_lt _ (by decide);have b2:y / 2^(7 - r)%2<2:=Nat.mod_lt _ (by decide);have lt_of:∀p q:Nat,p / 2^(7 - r)<q / 2^(7 - r)→p<q:=fun p q hpq=>by
  rcases Nat.lt_or_ge p q with h | h
  ·exact h
  ·have:=Nat.div_le_div_right (c:=2^(7 - r)) h
   omega
 constructor
 ·intro hxy
  rcases Nat.eq_zero_or_pos (x / 2^(7 - r)%2) with h | h
  ·exact h
  ·have:=lt_of y x (by omega)
   omega
 ·intro h0
  exact lt_of x y (by omega)
theorem cmp_com'{a b:List Nat}(ha:Key a)(hb:Key b)(h:zEX a b<256):zDV a b=(zBO a (zEX a b):Int) - (zBO b (zEX a b):Int):=by
 have hd:=zJD a b h;have hs:=fun j=>comN_same a b j
 generalize zEX a b=n at *;obtain⟨k,r,hr,rfl⟩:∃k r,r<8∧n=8*k+r:=⟨n / 8,n%8,by omega,by omega⟩
 rw[zHO a k r hr,zHO b k r hr] at hd ⊢;have hpre:∀j<k,a.getD j 0=b.getD j 0:=fun j hj=>byte_ext (ha.get j) (hb.get j) fun s hs'=>by
  have:=hs (8*j+s) (by omega);rw[zHO a j s hs',zHO b j s hs'] at this;exact this
 have hbits:∀s<r,a.getD k 0 / 2^(7 - s)%2=b.getD k 0 / 2^(7 - s)%2:=fun s hs'=>by
  have:=hs (8*k+s) (by omega);rw[zHO a k s (by omega),zHO b k s (by omega)] at this;exact this
 have hne:a.getD k 0≠b.getD k 0:=fun e=>hd (by rw[e])
 rw[cmpL_at a b k (by rw[ha.len,hb.len]) (by rw[ha.len];omega) hpre hne];have ho:=byte_order' _ _ r (ha.get k) (hb.get k) hr hbits hd;have h1:a.getD k 0 / 2^(7 - r)%2<2:=Nat.mod_lt _ (by decide);have h2:b.getD k 0 / 2^(7 - r)%2<2:=Nat.mod_lt _ (by decide)
 by_cases hlt:a.getD k 0<b.getD k 0
 ·rw[if_pos hlt];have:=ho.1 hlt;omega
 ·rw[if_neg hlt]
  have:¬a.getD k 0 / 2^(7 - r)%2=0:=fun e=>hlt (ho.2 e)
  omega
theorem bits_mono{a b:List Nat}(ha:Key a)(hb:Key b){d:Nat}(hp:∀j<d,zBO a j=zBO b j)(hc:zDV a b<0):zBO a d≤zBO b d:=by
 have hlt:zEX a b<256:=by
  rcases Nat.lt_or_ge (zEX a b) 256 with h | h
  ·exact h
  ·have e:a=b:=(comN_256 ha hb).1 (by have:=comN_le a b;omega)
   rw[e,cmpL_self] at hc;exact absurd hc (by decide)
 rw[cmp_com' ha hb hlt] at hc;have hge:d≤zEX a b:=by
  rcases Nat.lt_or_ge (zEX a b) d with h | h
  ·exact absurd (hp _ h) (zJD _ _ hlt)
  ·exact h
 rcases Nat.eq_or_lt_of_le hge with h | h
 ·rw[h];omega
 ·rw[comN_same a b d h];exact Nat.le_refl _
theorem ApOK.mono{es:List Ent}{cvs:List CV}{d:Nat}(h:ApOK es cvs d):∀x y (hx:x<(cvs.map (fun p=>p.1.k)).length) (hy:y<(cvs.map (fun p=>p.1.k)).length),x≤y→zBO (cvs.map (fun p=>p.1.k))[x] d=1→zBO (cvs.map (fun p=>p.1.k))[y] d=1:=fun x y hx hy hxy h1=>by
 rcases Nat.lt_or_ge x y with hlt | hge
 ·have hx':x<cvs.length:=by simpa using hx
  have hy':y<cvs.length:=by simpa using hy
  have h2:=List.pairwise_iff_getElem.1 h.asc x y (by simpa using hx) (by simpa using hy) hlt;simp only[List.getElem_map] at h1 h2 ⊢;have h3:=bits_mono (h.key _ (List.getElem_mem hx')) (h.key _ (List.getElem_mem hy')) (h.pre _ (List.getElem_mem hx') _ (List.getElem_mem hy')) h2
  have:=zCQ cvs[y].1.k d;omega
 ·obtain rfl:x=y:=by omega
  exact h1
theorem ApOK.deep{es:List Ent}{cvs:List CV}{d:Nat}(h:ApOK es cvs d)(h2:2≤cvs.length):d<256:=by
 rcases Nat.lt_or_ge d 256 with hd | hd
 ·exact hd
 ·have h3:=List.pairwise_iff_getElem.1 h.asc 0 1 (by simpa using (by omega:0<cvs.length)) (by rw[List.length_map];exact h2) (by decide)
  simp only[List.getElem_map] at h3;have e:=key_ext (h.key _ (List.getElem_mem (by omega:0<cvs.length))) (h.key _ (List.getElem_mem h2)) fun j hj=>h.pre _ (List.getElem_mem _) _ (List.getElem_mem _) j (by omega)
  rw[e,cmpL_self] at h3;exact absurd h3 (by decide)
def keptV(cvs:List CV):List CV:=cvs.filter fun p=>!p.1.del
theorem keptV_map(cvs:List CV):(keptV cvs).map (·.1)=kept (cvs.map (·.1)):=by
 unfold keptV kept;rw[List.filter_map];rfl
theorem appE_kept(cvs:List CV):zGI [] (keptV cvs)=zGI [] cvs:=by simp[zGI,keptV]
theorem ApOK.kept{cvs:List CV}{d:Nat}(h:ApOK [] cvs d):ApOK [] (keptV cvs) d :=
 ⟨h.dist,List.Pairwise.sublist (List.Sublist.map _ List.filter_sublist) h.asc,fun p hp=>h.key p (List.mem_filter.1 hp).1,fun p hp q hq=>h.pre p (List.mem_filter.1 hp).1 q (List.mem_filter.1 hq).1,fun _ _ _ he=>(List.not_mem_nil he).elim⟩
end
section
open Go Go.RowKit
attribute [local irreducible] Inv.wpInv Mix.wpUp
theorem chc_data(c:Chg):∀u∈chc c,isData u:=fun u hu=>by
 rcases List.mem_append.1 hu with hu | hu
 ·unfold zAJ at hu
  obtain⟨x,_,rfl⟩:=List.mem_map.1 hu
  trivial
 ·simp only[List.mem_cons,List.not_mem_nil,or_false] at hu
  rcases hu with rfl | rfl<;>trivial
theorem RdG.data{α:Type}{sz:Nat}{f:α→List Value}(hf:∀x,∀u∈f x,isData u){w w':World}{v:Value}{l:List α}(h:RdG sz f w v l)(hd:DataKept w w'):RdG sz f w' v l:=by
 obtain⟨h1,h2,a,c,h3,h4,h5⟩:=h;refine⟨h1,h2,a,c,h3,h4,fun hn=>?_⟩;obtain⟨b,off,e1,e2⟩:=h5 hn;exact⟨b,off,e1,fun i hi j u hu=>hd _ _ _ (hf _ u (List.mem_of_getElem? hu)) (e2 i hi j u hu)⟩
theorem RdG.takeS{α:Type}{sz:Nat}{f:α→List Value}{w:World}{a:Option Addr}{n c:Nat}{l:List α}(h:RdG sz f w (.slice a n c) l)(s:Nat)(hs:s≤l.length):RdG sz f w (.slice a s s) (l.take s):=by
 obtain⟨h1,h2,a',c',h3,h4,h5⟩:=h;injection h3 with e1 e2 e3;subst e1;refine⟨fun x hx=>h1 x (List.mem_of_mem_take hx),by rw[List.length_take];omega,a,s,by rw[List.length_take,Nat.min_eq_left hs],by rw[List.length_take];omega,fun hn=>?_⟩;obtain⟨b,off,e1,e2⟩:=h5 (fun e=>hn (by rw[e];simp));refine⟨b,off,e1,fun i hi=>?_⟩;rw[List.getElem_take];exact e2 i (by rw[List.length_take] at hi;omega)
theorem RdG.dropS{α:Type}{sz:Nat}{f:α→List Value}{w:World}{a:Option Addr}{n c:Nat}{l:List α}(h:RdG sz f w (.slice a n c) l)(s:Nat)(hs:s≤l.length):RdG sz f w (.slice (if c=s then a else a.map (fun x=>x.add (s*sz))) (l.length - s) (c - s)) (l.drop s):=by
 obtain⟨h1,h2,a',c',h3,h4,h5⟩:=h;injection h3 with e1 e2 e3;subst e1;subst e3;refine⟨fun x hx=>h1 x (List.mem_of_mem_drop hx),by rw[List.length_drop];omega,_,c - s,by rw[List.length_drop],by rw[List.length_drop];omega,fun hn=>?_⟩;have hlt:s<l.length:=by
  rcases Nat.lt_or_ge s l.length with h | h
  ·exact h
  ·exact absurd (List.drop_eq_nil_of_le h) hn
 obtain⟨b,off,e1,e2⟩:=h5 (fun e=>hn (by rw[e];simp));subst e1;refine⟨b,off+s*sz,by rw[if_neg (by omega)];simp[Addr.add],fun i hi=>?_⟩;rw[List.getElem_drop];have h6:=e2 (s+i) (by rw[List.length_drop] at hi;omega)
 rwa [Nat.add_mul,←Nat.add_assoc] at h6
theorem run_slice_cutN{P:Program}{t e:TypeId}{sz:Nat}(ht:P.underlying t=some (.slice e))(hs:(P.info? e).map (·.size)=some sz)(a:Option Addr)(n c:Nat)(k:IntKind)(hi:Nat)(h:hi≤c)(hsp:∀x,a=some x→x.spot=none)(w:World) :
  (Instr.slice t (.slice a n c) none (some (.int k hi)) (some (.int k hi))).run P w=.ok (.slice a hi hi) w:=by
 cases hq:P.info? e with
 |none=>simp[hq] at hs
 |some i =>
  have e:a.map (fun x=>x.add 0)=a:=by
   cases a with
   |none=>rfl
   |some x=>have:=hsp x rfl;cases x;simp_all [Addr.add]
  simp[Instr.slice,Instr.sliceBounds,Instr.sliceBound,asIntOf,run_underlying ht,sizeOf,typeInfo,hq,Sem.run_bind,h,Result.andThen,e]
def GoodCV(w:World)(cvs:List CV):Prop:=∀p∈cvs,RdB w (.slice p.1.va p.1.vn p.1.vc) p.2∧(∀x∈p.2,x<256)∧p.2.length≤100000∧p.1.vn=p.2.length
theorem GoodCV.call{w w':World}{cvs:List CV}(h:GoodCV w cvs)(hb:Below w.heap.size w w'):GoodCV w' cvs:=fun p hp=>⟨(h p hp).1.call hb,(h p hp).2⟩
theorem GoodCV.data{w w':World}{cvs:List CV}(h:GoodCV w cvs)(hd:DataKept w w'):GoodCV w' cvs:=fun p hp=>⟨(h p hp).1.data hd,(h p hp).2⟩
theorem GoodCV.sub{w:World}{cvs cvs':List CV}(h:GoodCV w cvs)(hs:∀p∈cvs',p∈cvs):GoodCV w cvs':=fun p hp=>h p (hs p hp)
def zEI(m d:Nat):Int:=(m:Int)*(3*(257 - (d:Int))+2)
theorem zCK(m d:Nat)(hd:d≤256):0≤zEI m d:=Int.mul_nonneg (by omega) (by omega)
theorem costA_one(d:Nat)(hd:d≤256)(m:Nat)(hm:1≤m):2≤zEI m d:=by
 unfold zEI;have h1:(1:Int)*(3*(257 - (d:Int))+2)≤(m:Int)*(3*(257 - (d:Int))+2):=Int.mul_le_mul_of_nonneg_right (by omega) (by omega);omega
theorem costA_mono(m m' d:Nat)(hd:d≤256)(h:m≤m'):zEI m d≤zEI m' d:=Int.mul_le_mul_of_nonneg_right (by omega) (by omega)
theorem own_open{w:World}{base:Nat}{e:TypeId}{v:Value}{n:Nat}{xs:List Value}(h:w.ownsRow base e 34 v n xs)(hn:0<n):∃g cap cur,v=.slice (some ⟨g,0,none⟩) n cap∧base≤g∧w.heap[g]?=some (.cells cur e (0,0))∧n≤cap∧cap≤maxLen∧cur.size=cap*34∧cur.toList.take (n*34)=xs:=by
 rcases h.2 with ⟨_,h0⟩ | h
 ·omega
 ·exact h
end
end Go.Proofs.YtlcngapphloafaaGreatDoor
