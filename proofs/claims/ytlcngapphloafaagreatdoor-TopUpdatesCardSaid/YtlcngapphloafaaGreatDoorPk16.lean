/- Parts of the proof that are used by the claim: Codec2, Reader, Dec1, Dec2, Enc. No condition is added here. -/
import Derived.Test.YtlcngapphloafaaGreatDoorPk15
import Derived.Laws.MakeOwn
namespace Go.Proofs.YtlcngapphloafaaGreatDoor
section
open Go Go.RowKit
attribute [local irreducible] Inv.wpInv Mix.wpUp
theorem RdB.ext{w:World}{b off n cap:Nat}{cs:Array Value}{l:List Nat}{t:TypeId}{fr:Nat×Nat}(h:w.heap[b]?=some (.cells cs t fr))(hx:cs.extract off (off+n)=kv l)(hn:n=l.length)(hm:n≤maxLen):RdB w (.slice (some ⟨b,off,none⟩) n cap) l:=by
 subst hn;refine⟨hm,.inr ⟨b,off,cap,rfl,fun i hi=>?_⟩⟩;simp only[World.cell?,h,Option.isSome_none,Bool.false_eq_true,if_false];have h1:=zFX l i hi;rw[←hx,Array.getElem?_extract] at h1
 split at h1
 ·exact h1
 ·cases h1
section
variable {P:Program} {ops:Array Oper} {rest:List Oper} {o:Oper} {a:Act} {w w0:World} {Q:Exit→Act→World→Prop} {B:Nat} {L:List (Nat×Array Value×TypeId)}
theorem Below.of_none{B:Nat}{w w':World}(hg:w.grownBy w' none)(hB:B≤w.heap.size):Below B w w':=(Below.refl B w).grown hg hB (fun k e=>by cases e)
theorem wpList_makeOwn(hgd:o.guard=none)(t:TypeId)(l c:Operand)(ho:o.op=.makeSlice t l c)(e:TypeId)(z:Value)(size bytes:Nat)(ht:P.underlying t=some (.slice e))
  (hz:(P.info? e).bind (·.zero)=some z) (hsize:(P.info? e).map (·.size)=some size) (hby:(P.info? e).map (·.bytes)=some bytes)
  (kl kc:IntKind) (n:Nat) (hl:a.eval l=.int kl 0) (hc:a.eval c=.int kc (n:Int)) (h1:n*size≤16777216) (h2:bytes*n≤281474976710656) (h63:n≤maxLen)
  (h:∀v w1,w1.ownsRow w.heap.size e size v 0 []→Below w.heap.size w w1→wpList P ops Q rest (a.put o.dst v) w1):wpList P ops Q (o::rest) a w:=by
 refine wpList_plain hgd fun K hK=>?_
 cases hq:P.info? e with
 |none=>simp[hq] at hz
 |some i =>
  have hbi:i.bytes*n≤281474976710656:=by
   have e:i.bytes=bytes:=by simpa[hq] using hby
   rw[e];exact h2
  obtain⟨w',hr,hown,hg⟩:=run_makeSlice_owned w w.heap.size t e i z size ht hq (by simpa[hq] using hz) (by simpa[hq] using hsize) kl kc n h1 hbi h63 (Nat.le_refl _);unfold Oper.wp execOp;simp only[ho,hl,hc,Sem.run_bind,hr,Sem.run_pure,Result.andThen_ok,Oper.upon];exact hK _ _ (h _ _ hown (Below.of_none hg (Nat.le_refl _)))
end
def zGT:List Nat:=[1,1,0,0]++zAH
theorem fillB4(a b c d:Int):Instr.fill (fun i=>some (i*1,1)) ((Array.range (4*1)).map ((Value.int .u8 0).cells[·%(Value.int .u8 0).cells.size]!)) [(0,.int .u8 a),(1,.int .u8 b),(2,.int .u8 c),(3,.int .u8 d)]=some #[.int .u8 a,.int .u8 b,.int .u8 c,.int .u8 d]:=by kernel_rfl
theorem fillP3(a:Option Addr)(n c:Nat)(a':Option Addr)(n' c':Nat)(a'':Option Addr)(n'' c'':Nat):Instr.fill (fun i=>some (i*1,1)) ((Array.range (3*1)).map ((Value.slice none 0 0).cells[·%(Value.slice none 0 0).cells.size]!)) [(0,.slice a n c),(1,.slice a' n' c'),(2,.slice a'' n'' c'')]=some #[.slice a n c,.slice a' n' c',.slice a'' n'' c'']:=by kernel_rfl
end
section
set_option maxHeartbeats 1000000
open Go Go.RowKit
attribute [local irreducible] Inv.wpInv Mix.wpUp
def RdS(w:World)(v:Value)(l:List Nat):Prop:=RdB w v l∧∃a c,v=.slice a l.length c∧l.length≤c
theorem RdS.call{w w':World}{v:Value}{l:List Nat}(h:RdS w v l)(hb:Below w.heap.size w w'):RdS w' v l:=⟨h.1.call hb,h.2⟩
theorem RdS.own{w:World}{base:Nat}{e:TypeId}{v:Value}{l:List Nat}(h:w.ownsRow base e 1 v l.length (zAJ l)):RdS w v l:=by
 refine⟨RdB.own h,?_⟩;rcases h.2 with ⟨rfl,h0⟩ | ⟨g,cap,cur,rfl,_,_,hle,_⟩
 ·exact⟨none,0,by rw[h0],by omega⟩
 ·exact⟨_,cap,rfl,hle⟩
def subA(a:Option Addr)(c lo:Nat):Option Addr:=if c=lo then a else a.map (·.add lo)
def subV(v:Value)(lo hi:Nat):Value:=match v with
 |.slice a _ c=>.slice (subA a c lo) (hi - lo) (c - lo)
 |v=>v
theorem run_slice_from{P:Program}{t e:TypeId}(ht:P.underlying t=some (.slice e))(hs:(P.info? e).map (·.size)=some 1)(a:Option Addr)(n c:Nat)(k:IntKind)(lo:Nat)(h:lo≤n)(w:World) :
  (Instr.slice t (.slice a n c) (some (.int k lo)) none none).run P w=.ok (.slice (subA a c lo) (n - lo) (c - lo)) w:=by
 cases hq:P.info? e with
 |none=>simp[hq] at hs
 |some i =>
  have hz:i.size=1:=by simpa[hq] using hs
  simp[Instr.slice,Instr.sliceBounds,Instr.sliceBound,asIntOf,run_underlying ht,sizeOf,typeInfo,hq,hz,Sem.run_bind,subA,h,Result.andThen]
theorem run_slice_both{P:Program}{t e:TypeId}(ht:P.underlying t=some (.slice e))(hs:(P.info? e).map (·.size)=some 1)(a:Option Addr)(n c:Nat)(k k':IntKind)(lo hi:Nat)(h:lo≤hi)(hc:hi≤c)(w:World) :
  (Instr.slice t (.slice a n c) (some (.int k lo)) (some (.int k' hi)) none).run P w=.ok (.slice (subA a c lo) (hi - lo) (c - lo)) w:=by
 cases hq:P.info? e with
 |none=>simp[hq] at hs
 |some i =>
  have hz:i.size=1:=by simpa[hq] using hs
  simp[Instr.slice,Instr.sliceBounds,Instr.sliceBound,asIntOf,run_underlying ht,sizeOf,typeInfo,hq,hz,Sem.run_bind,subA,h,hc,Result.andThen]
theorem RdS.sub{w:World}{v:Value}{l:List Nat}(h:RdS w v l)(lo hi:Nat)(h1:lo≤hi)(h2:hi≤l.length):RdS w (subV v lo hi) ((l.drop lo).take (hi - lo)):=by
 obtain⟨hr,a,c,rfl,hc⟩:=h;have hlen:((l.drop lo).take (hi - lo)).length=hi - lo:=by simp;omega
 refine⟨⟨by rw[hlen];have:=hr.1;omega,?_⟩,subA a c lo,c - lo,by simp[subV,hlen],by omega⟩
 by_cases h0:hi=lo
 ·exact .inl ⟨List.eq_nil_of_length_eq_zero (by omega),subA a c lo,c - lo,by simp[subV,h0]⟩
 ·rcases hr.2 with ⟨rfl,_⟩ | ⟨b,off,cap,hv,hcc⟩
  ·simp at h2;omega
  ·injection hv with ha hn hcap
   subst ha hcap;have hne:¬c=lo:=by omega
   refine .inr ⟨b,off+lo,c - lo,by simp[subV,subA,hne,Addr.add,hlen],fun i hi'=>?_⟩;rw[hlen] at hi';rw[Nat.add_assoc,hcc (lo+i) (by omega)];simp[List.getD_eq_getElem?_getD,hi',List.getElem?_drop]
theorem KindC_calls(l:List Nat)(v:Value)(hl:2≤l.length)(hby:∀x∈l,x<256)(w:World)(hv:RdB w v l) :
  Calls Tryz.prog 30 #[v] w fun e w'=>e=.returned (if l.getD 0 0=1 then .tuple #[.int .i64 (l.getD 1 0:Nat),.int .i64 0] else .tuple #[.int .i64 0,.int .i64 6])∧w'=w:=by
 obtain⟨a,cap,rfl,Hc⟩:=hv.open;obtain⟨b,off,rfl,hc⟩:=Hc.out (by omega);have hlm:=hv.1;have h0:=hc w (Below.refl _ _) 0 (by omega);have h1:=hc w (Below.refl _ _) 1 (by omega);have hx1:l.getD 1 0<256:=by
  rw[List.getD_eq_getElem?_getD,List.getElem?_eq_getElem (by omega:1<l.length)];exact hby _ (List.getElem_mem _)
 clear hc Hc hv hby;unfold maxLen at hlm;generalize l.getD 0 0=x0 at *;generalize l.getD 1 0=x1 at *;rw[Nat.add_zero] at h0
 by_cases h:x0=1
 ·subst h
  rw[if_pos rfl];go_enter Tryz.func30,Tryz.ntmps30
  go_wp2_with (first | (go_ints))
  go_ret2;exact⟨rfl,rfl⟩
 ·have hne:(((x0:Nat):Int) != 1)=true:=by simp;omega
  rw[if_neg h];go_enter Tryz.func30,Tryz.ntmps30;go_wp2;go_ret2;exact⟨rfl,rfl⟩
def HasR(rb:Nat)(rv:Value)(bad:Bool)(w:World):Prop:=w.heap[rb]?=some (.cells #[rv,.bool bad] 87 (0,0))
theorem zeroArr:(Tryz.prog.info? 36).bind (·.zero)=some (.agg (kv zAH)):=by kernel_rfl
theorem sizeBool1:(Tryz.prog.info? 4).map (·.size)=some 1:=by kernel_rfl
theorem sizeSlB:(Tryz.prog.info? 22).map (·.size)=some 1:=by kernel_rfl
theorem arrayAtArr(a:Option Addr)(n cap:Nat)(h:32≤n)(w:World):(Instr.arrayAt 36 (.slice a n cap)).run Tryz.prog w=.ok (.pointer a) w:=by
 have hu:Tryz.prog.underlying 36=some (.array 32 5):=by kernel_rfl
 simp[Instr.arrayAt,run_underlying hu,Sem.run_bind,Result.andThen,show ¬n<32 by omega]
set_option maxRecDepth 20000 in
theorem part_short(rb:Nat)(v:Value)(l:List Nat)(bad:Bool)(w:World)(h:HasR rb v bad w)(hv:RdS w v l)(hl:l.length<32) :
  Calls Tryz.prog 31 #[.pointer (some ⟨rb,0,none⟩)] w fun e w'=>e=.returned (.agg (kv zAH))∧HasR rb v true w'∧w.grownBy w' (some rb):=by
 have HR:=Lib.hid h;have hlt:=zAG h;obtain⟨a,c,rfl,_⟩:=hv.2;have hc0:w.cell? ⟨rb,0,none⟩=some (.slice a l.length c):=by unfold HasR at h;simp[World.cell?,h]
 clear h hv;have st:=St.init w;go_enter Tryz.func31,Tryz.ntmps31
 go_wp2_with (first
  |(refine zAE st rfl 36 rfl _ zeroArr ?_;intro b2 w1 st1;clear st;have hR1:HasR rb (.slice a l.length c) bad w1:=(st1.below.block rb hlt).trans HR.out;have hc1:=(st1.below.cell hlt).trans hc0)
  |(refine zDR rfl 4 _ _ rfl rb 1 rfl (.bool true) rfl _ _ hR1 sizeBool1 rfl (by simp) rfl _ rfl ?_;intro w3 hg3 hr3;have st3:=St.other st1 hg3 hlt HR.out hr3;clear st1 hR1 hc1)
  |(refine zAC rfl 36 _ rfl b2 rfl _ zEY.choose_spec.1 zEY.choose_spec.2 _ _ (st3.at (i:=0) rfl) zDH ?_)
  |(refine zAA st3 rfl 36 _ _ rfl 0 b2 rfl (.agg (kv zAH)) rfl _ _ rfl zDH rfl (zBJ _) _ rfl ?_;intro w4 st4;clear st3))
 refine zBX rfl b2 _ _ _ rfl (st4.at (i:=0) rfl) zEY.choose_spec.1 zEY.choose_spec.2 zDH rfl ⟨rfl,?_,zCU st4.below⟩;exact(st4.below.block rb hlt).trans (setRow_heap _ _ _ _ _ _ HR.out)
set_option maxRecDepth 20000 in
theorem part_long(rb:Nat)(v:Value)(l:List Nat)(bad:Bool)(w:World)(h:HasR rb v bad w)(hv:RdS w v l)(hl:32≤l.length) :
  Calls Tryz.prog 31 #[.pointer (some ⟨rb,0,none⟩)] w fun e w'=>e=.returned (.agg (kv (l.take 32)))∧HasR rb (subV v 32 l.length) bad w'∧w.grownBy w' (some rb):=by
 have HR:=Lib.hid h;have hlt:=zAG h;have hlm:=hv.1.1;obtain⟨a,c,rfl,hcap⟩:=hv.2;obtain⟨a',c',he,Hc⟩:=hv.1.open;obtain⟨rfl,rfl⟩:a=a'∧c=c':=by injection he with h1 h2 h3;exact⟨h1,h3⟩
 obtain⟨b,off,rfl,hc⟩:=Hc.out (by omega);have HC:=Lib.hid hc;have hc0:w.cell? ⟨rb,0,none⟩=some (.slice (some ⟨b,off,none⟩) l.length c):=by unfold HasR at h;simp[World.cell?,h]
 have hk:Hid ((kv (l.take 32)).size=32):=by unfold Hid;rw[zAF,List.length_take];omega
 have hat:=arrayAtArr (some ⟨b,off,none⟩) l.length c hl;have hsl:∀wx,(Instr.slice 22 (.slice (some ⟨b,off,none⟩) l.length c) (some (.int .i64 32)) none none).run Tryz.prog wx=.ok (.slice (subA (some ⟨b,off,none⟩) c 32) (l.length - 32) (c - 32)) wx:=run_slice_from zCC zCN (some ⟨b,off,none⟩) l.length c .i64 32 hl;have hsv:subV (.slice (some ⟨b,off,none⟩) l.length c) 32 l.length=.slice (subA (some ⟨b,off,none⟩) c 32) (l.length - 32) (c - 32):=rfl;rw[hsv];generalize subA (some ⟨b,off,none⟩) c 32=a2 at *;unfold maxLen at hlm;clear h hv hc he Hc hsv;have st:=St.init w;go_enter Tryz.func31,Tryz.ntmps31
 go_wp2_with (first
  |(refine zAE st rfl 36 rfl _ zeroArr ?_;intro b2 w1 st1;clear st;have hR1:HasR rb (.slice (some ⟨b,off,none⟩) l.length c) bad w1:=(st1.below.block rb hlt).trans HR.out;have hc1:=(st1.below.cell hlt).trans hc0)
  |(refine wpList_loadB rfl 36 _ rfl b off 32 rfl zEY zDH l hl (HC.out _ st1.below) ?_)
  |(refine zAA st1 rfl 36 _ _ rfl 0 b2 rfl (.agg (kv (l.take 32))) rfl _ _ rfl (by show _=some (kv (l.take 32)).size;rw[hk.out];exact zDH) (by show (kv (l.take 32)).size=_;rw[hk.out];rfl) (zBJ _) _ rfl ?_;intro w2 st2;have hR2:HasR rb (.slice (some ⟨b,off,none⟩) l.length c) bad w2:=(st2.below.block rb hlt).trans HR.out;have hc2:=(st2.below.cell hlt).trans hc0;clear st1 hR1 hc1)
  |(refine zDR rfl 22 _ _ rfl rb 0 rfl (.slice a2 (l.length - 32) (c - 32)) rfl _ _ hR2 sizeSlB rfl (by simp) rfl _ rfl ?_;intro w3 hg3 hr3;have st3:=St.other st2 hg3 hlt HR.out hr3;clear st2 hR2 hc2)
  |(refine zAC rfl 36 _ rfl b2 rfl _ zEY.choose_spec.1 zEY.choose_spec.2 _ _ (st3.at (i:=0) rfl) (by show _=some (kv (l.take 32)).size;rw[hk.out];exact zDH) ?_)
  |(refine zAA st3 rfl 36 _ _ rfl 0 b2 rfl (.agg (kv (l.take 32))) rfl _ _ rfl (by show _=some (kv (l.take 32)).size;rw[hk.out];exact zDH) rfl (zBJ _) _ rfl ?_;intro w4 st4;clear st3))
 refine zBX rfl b2 _ _ _ rfl (st4.at (i:=0) rfl) zEY.choose_spec.1 zEY.choose_spec.2 (by show _=some (kv (l.take 32)).size;rw[hk.out];exact zDH) rfl ⟨rfl,?_,zCU st4.below⟩;exact(st4.below.block rb hlt).trans (setRow_heap _ _ _ _ _ _ HR.out)
end
section
open Go Go.RowKit
attribute [local irreducible] Inv.wpInv Mix.wpUp
def RdD(w:World)(v:Value)(n:Nat)(l:List Nat):Prop :=
 l.length=32*n∧n≤1099511627776∧((n=0∧∃a c,v=.slice a 0 c)∨∃b off c,v=.slice (some ⟨b,off,none⟩) n c∧∀i,i<32*n→w.cell? ⟨b,off+i,none⟩=some (.int .u8 (l.getD i 0:Nat)))
theorem RdD.call{w w':World}{v:Value}{n:Nat}{l:List Nat}(h:RdD w v n l)(hb:Below w.heap.size w w'):RdD w' v n l:=by
 refine⟨h.1,h.2.1,?_⟩;rcases h.2.2 with h | ⟨b,off,cap,hv,hc⟩
 ·exact .inl h
 ·refine .inr ⟨b,off,cap,hv,fun i hi=>?_⟩
  rw[hb.cell (zAS (hc i hi))];exact hc i hi
theorem RdD.own{w:World}{base n:Nat}{e:TypeId}{v:Value}{l:List Nat}(hl:l.length=32*n)(hn:n≤1099511627776)(h:w.ownsRow base e 32 v n (zAJ l)):RdD w v n l:=by
 refine⟨hl,hn,?_⟩;rcases h.2 with ⟨rfl,rfl⟩ | ⟨g,cap,cur,rfl,_,hg,hle,hcap,hsz,htake⟩
 ·exact .inl ⟨rfl,none,0,rfl⟩
 ·refine .inr ⟨g,0,cap,rfl,fun i hi=>?_⟩
  have h1:=zHP l i (by omega);rw[←htake,List.getElem?_take,if_pos (by rw[Nat.mul_comm];exact hi)] at h1;simp only[World.cell?,hg,Option.isSome_none,Bool.false_eq_true,if_false,Nat.zero_add];rw[←Array.getElem?_toList];exact h1
theorem RdD.open{w:World}{v:Value}{n:Nat}{l:List Nat}(h:RdD w v n l):∃a c,v=.slice a n c:=by
 rcases h.2.2 with ⟨rfl,a,c,rfl⟩ | ⟨b,off,c,rfl,_⟩
 ·exact⟨a,c,rfl⟩
 ·exact⟨_,c,rfl⟩
def kdOf(l:List Nat):Nat:=l.getD 1 0
def dpOf(l:List Nat):Nat:=l.getD 2 0*256+l.getD 3 0
def bmOf(l:List Nat):List Nat:=(l.drop 4).take 32
def lfOf(l:List Nat):List Nat:=if kdOf l=1 then (l.drop 36).take 64 else List.replicate 64 0
def zFP(l:List Nat):List Nat:=l.drop (if kdOf l=1 then 100 else 36)
def decOk(l:List Nat):Prop :=
 36≤l.length∧l.getD 0 0=1∧(kdOf l=1→100≤l.length)∧(zFP l).length%32=0∧(zFP l).length≤8224∧zGV (kdOf l) (dpOf l) (lfOf l) (bmOf l) ((zFP l).length / 32)=0
theorem check_kind{kd dp:Int}{lf bm:List Nat}{n:Nat}(h:zGV kd dp lf bm n=0):kd=0∨kd=1:=by
 unfold zGV at h
 split at h
 ·cases h
 ·rename_i h1;simp at h1;omega
section
variable {B:Nat} {w0 w w2:World} {L L':List (Nat×Array Value×TypeId)}
theorem St.turn{i rb:Nat}{old cs:Array Value}{t:TypeId}(st:St B w0 L w)(hL:L[i]?=some (rb,old,t))(hg:w.grownBy w2 (some rb))(h2:w2.heap[rb]?=some (.cells cs t (0,0)))(hL':L.set i (rb,cs,t)=L'):St B w0 L' w2:=by
 have hrb:=st.above hL;have hlt:=zAG (st.at hL);refine⟨st.below.grown hg st.size (fun k e=>by cases e;exact hrb),Nat.le_trans st.size hg.size,fun p hp=>?_,?_⟩
 ·subst hL'
  have hiL:i<L.length:=(List.getElem?_eq_some_iff.1 hL).1;rcases List.mem_or_eq_of_mem_set hp with hp' | rfl
  ·by_cases e:p.1=rb
   ·refine⟨(st.rows p hp').1,?_⟩
    obtain⟨j,hj⟩:=List.getElem?_of_mem hp;rw[List.getElem?_set] at hj
    split at hj
    ·rename_i hij;injection hj with hj;subst hj;exact h2
    ·rename_i hij
     exfalso
     have hjl:=(List.getElem?_eq_some_iff.1 hj).1;have hjv:=(List.getElem?_eq_some_iff.1 hj).2;have hv:=(List.getElem?_eq_some_iff.1 hL).2;refine hij ((List.getElem_inj (xs:=L.map (·.1)) (h₀:=by simpa using hiL) (h₁:=by simpa using hjl) st.nodup).1 ?_);simp only[List.getElem_map,hv,hjv];exact e.symm
   ·exact⟨(st.rows p hp').1,(hg.block p.1 (zAG (st.rows p hp').2) (fun e'=>e (Option.some.inj e'))).trans (st.rows p hp').2⟩
  ·exact⟨hrb,h2⟩
 ·have hk:L'.map (·.1)=L.map (·.1):=by
   subst hL';rw[List.map_set];apply List.ext_getElem?;intro j;rw[List.getElem?_set]
   split
   ·rename_i hj
    subst hj;have hiL:i<L.length:=(List.getElem?_eq_some_iff.1 hL).1;have hv:=(List.getElem?_eq_some_iff.1 hL).2;simp[hiL,hv]
   ·rfl
  rw[hk];exact st.nodup
end
theorem part_any(rb:Nat)(v:Value)(l:List Nat)(bad:Bool)(w0 w:World)(h:HasR rb v bad w)(hv:RdS w0 v l)(hb:Below w0.heap.size w0 w) :
  Calls Tryz.prog 31 #[.pointer (some ⟨rb,0,none⟩)] w fun e w'=>∃k v' l' bad',e=.returned (.agg (kv k))∧w'.heap[rb]?=some (.cells #[v',.bool bad'] 87 (0,0))∧w.grownBy w' (some rb) ∧
   (k.length=32∧RdS w0 v' l'∧bad'=(bad||decide (l.length<32))∧(32≤l.length→k=l.take 32∧l'=l.drop 32)∧(l.length<32→l'=l)):=by
 by_cases hl:l.length<32
 ·refine(part_short rb v l bad w h (hv.call hb) hl).mono ?_
  rintro e w' ⟨rfl,hr,hg⟩;exact⟨zAH,v,l,true,rfl,hr,hg,rfl,hv,by simp[hl],fun h=>by omega,fun _=>rfl⟩
 ·have hl':32≤l.length:=by omega
  refine(part_long rb v l bad w h (hv.call hb) hl').mono ?_;rintro e w' ⟨rfl,hr,hg⟩;refine⟨l.take 32,subV v 32 l.length,l.drop 32,bad,rfl,hr,hg,by simp;omega,?_,by simp[hl],fun _=>⟨rfl,rfl⟩,fun h=>by omega⟩;have h2:=hv.sub 32 l.length hl' (Nat.le_refl _)
  rwa [List.take_of_length_le (by simp)] at h2
end
section
set_option maxHeartbeats 2000000
open Go Go.RowKit
attribute [local irreducible] Inv.wpInv Mix.wpUp
def DecPost(l:List Nat)(w:World)(e:Ending)(w':World):Prop :=
 ((decOk l∧∃s,e=.returned (.tuple #[.agg (zAB (kdOf l) (dpOf l) (lfOf l) (bmOf l) s),.int .i64 0])∧RdD w' s ((zFP l).length / 32) (zFP l)∧∀k,s.ownBlock=some k→w.heap.size≤k) ∨
   (¬decOk l∧∃c:Int,(c=5∨c=6∨c=7)∧e=.returned (.tuple #[.agg (zAB 0 0 (List.replicate 64 0) zAH (.slice none 0 0)),.int .i64 c])))∧Below w.heap.size w w'
set_option maxRecDepth 20000 in
theorem Decode_bad(l:List Nat)(v:Value)(hby:∀x∈l,x<256)(w:World)(hv:RdS w v l)(hb:l.length<36∨l.getD 0 0≠1∨(kdOf l≠0∧kdOf l≠1)) :
  Calls Tryz.prog 12 #[v] w (DecPost l w):=by
 have HV:=Lib.hid hv;have hlm:=hv.1.1;obtain⟨a,c,rfl,hcap⟩:=hv.2;have HZ:=Lib.hid zeroProof;have HB0:=Lib.hid builtProof0;have HS0:Hid ((zAB 0 0 (List.replicate 64 0) zAH (.slice none 0 0)).size=99):=zAO zCZ rfl;have H10:Hid (∀u∈(zAB 0 0 (List.replicate 64 0) zAH (.slice none 0 0)).toList,u.oneCell'=true):=zDI rfl;have HP:Hid (∀(c:Int)(w':World),(c=5∨c=6∨c=7)→¬decOk l→Below w.heap.size w w'→DecPost l w (.returned (.tuple #[.agg (zAB 0 0 (List.replicate 64 0) zAH (.slice none 0 0)),.int .i64 c])) w'):=fun c w' h1 h2 h3=>⟨.inr ⟨h2,c,h1,rfl⟩,h3⟩
 have HK:=Lib.hid (fun (h2:2≤l.length) wx (h:RdB wx (.slice a l.length c) l)=>KindC_calls l (.slice a l.length c) h2 hby wx h);obtain⟨dP,hdP,haP⟩:=zGE;clear hv hby;unfold maxLen at hlm;generalize DecPost l w=R at *;generalize zAB 0 0 (List.replicate 64 0) zAH (.slice none 0 0)=zc at *;have st:=St.init w
 by_cases hl36:l.length<36
 ·go_enter Tryz.func12,Tryz.ntmps12
  go_wp2_with (first
   |(refine zAE st rfl 43 rfl _ HZ.out ?_;intro b2 w1 st1;clear st)
   |(refine zAM rfl 43 _ rfl [] ?_ _ HB0.out ?_;(·(simp[Act.eval];done)))
   |(refine zAA st1 rfl 43 _ _ rfl 0 b2 rfl (.agg zc) rfl _ _ rfl (zAQ HS0.out) rfl H10.out _ rfl ?_;intro w2 st2;clear st1))
  exact zEP rfl b2 _ _ ⟨dP,hdP,haP⟩ rfl (st2.at (i:=0) rfl) (zAQ HS0.out) _ rfl rfl (HP.out 5 _ (.inl rfl) (fun h=>by have:=h.1;omega) st2.below)
 have hb':=hb.resolve_left hl36;clear hb
 by_cases h1:l.getD 0 0=1
 ·have hb1:=hb'.resolve_left (fun h=>h h1)
  have Hk:Hid (kdOf l=l.getD 1 0):=rfl;rw[Hk.out] at hb1;have HK1:Hid (∀wx,RdB wx (.slice a l.length c) l→Calls Tryz.prog 30 #[.slice a l.length c] wx fun e w'=>e=.returned (.tuple #[.int .i64 (l.getD 1 0:Nat),.int .i64 0])∧w'=wx):=fun wx h=>by
   have h2:=HK.out (by omega) wx h;rw[if_pos h1] at h2;exact h2
  have HN:Hid (¬decOk l):=fun h=>by
   have h3:=check_kind h.2.2.2.2.2;rw[Hk.out] at h3;omega
  generalize l.getD 1 0=x1 at *;have hn0:(((x1:Nat):Int) != 0)=true:=by simp;omega
  have hn1:(((x1:Nat):Int) != 1)=true:=by simp;omega
  go_enter Tryz.func12,Tryz.ntmps12
  go_wp2_with (first
   |(refine zAE st rfl 43 rfl _ HZ.out ?_;intro b2 w1 st1;clear st)
   |(go_at_call 30;refine(HK1.out _ (HV.out.1.call st1.below)).mono ?_;rintro e w2 ⟨rfl,rfl⟩)
   |(refine zAM rfl 43 _ rfl [] ?_ _ HB0.out ?_;(·(simp[Act.eval];done)))
   |(refine zAA st1 rfl 43 _ _ rfl 0 b2 rfl (.agg zc) rfl _ _ rfl (zAQ HS0.out) rfl H10.out _ rfl ?_;intro w2 st2;clear st1))
  exact zEP rfl b2 _ _ ⟨dP,hdP,haP⟩ rfl (st2.at (i:=0) rfl) (zAQ HS0.out) _ rfl rfl (HP.out 7 _ (.inr (.inr rfl)) HN.out st2.below)
 ·have HK1:Hid (∀wx,RdB wx (.slice a l.length c) l→Calls Tryz.prog 30 #[.slice a l.length c] wx fun e w'=>e=.returned (.tuple #[.int .i64 0,.int .i64 6])∧w'=wx):=fun wx h=>by
   have h2:=HK.out (by omega) wx h;rw[if_neg h1] at h2;exact h2
  go_enter Tryz.func12,Tryz.ntmps12
  go_wp2_with (first
   |(refine zAE st rfl 43 rfl _ HZ.out ?_;intro b2 w1 st1;clear st)
   |(go_at_call 30;refine(HK1.out _ (HV.out.1.call st1.below)).mono ?_;rintro e w2 ⟨rfl,rfl⟩)
   |(refine zAM rfl 43 _ rfl [] ?_ _ HB0.out ?_;(·(simp[Act.eval];done)))
   |(refine zAA st1 rfl 43 _ _ rfl 0 b2 rfl (.agg zc) rfl _ _ rfl (zAQ HS0.out) rfl H10.out _ rfl ?_;intro w2 st2;clear st1))
  exact zEP rfl b2 _ _ ⟨dP,hdP,haP⟩ rfl (st2.at (i:=0) rfl) (zAQ HS0.out) _ rfl rfl (HP.out 6 _ (.inr (.inl rfl)) (fun h=>h1 h.2.1) st2.below)
end
section
set_option maxHeartbeats 1000000
open Go Go.RowKit
attribute [local irreducible] Inv.wpInv Mix.wpUp
set_option maxRecDepth 20000 in
theorem EncodeS_calls(lf:List Nat)(hl:lf.length=64)(w:World) :
  Calls Tryz.prog 25 #[.agg (zAB 1 0 lf zAH (.slice none 0 0))] w fun e w'=>∃v,e=.returned (.tuple #[v,.int .i64 0])∧RdS w' v (zGT++lf)∧Below w.heap.size w w':=by
 have HC:=Lib.hid (fun wx=>Check_calls 1 0 lf zAH none 0 0 hl zIO wx);rw[check_leaf lf] at HC;have HSz:=Lib.hid (fun wx=>Size_calls lf hl wx);have HS:Hid ((zAB 1 0 lf zAH (.slice none 0 0)).size=99):=zAO hl rfl;have H0:Hid ((zAB 1 0 lf zAH (.slice none 0 0))[0]?=some (.int .i64 1)):=zEC;have H1:Hid ((zAB 1 0 lf zAH (.slice none 0 0))[1]?=some (.int .i64 0)):=zFG;have H98:Hid ((zAB 1 0 lf zAH (.slice none 0 0))[98]?=some (.slice none 0 0)):=zCX hl rfl;have HB:=Lib.hid (proofCells_bm (kd:=1) (dp:=0) (s:=.slice none 0 0) hl (show zAH.length=32 from rfl));have HLk:=Lib.hid (zFQ (kd:=1) (dp:=0) (bm:=zAH) (s:=.slice none 0 0) hl);have HLv:=Lib.hid (proofCells_leafVal (kd:=1) (dp:=0) (bm:=zAH) (s:=.slice none 0 0) hl);generalize zAB 1 0 lf zAH (.slice none 0 0)=pc at *;obtain⟨dP,hdP,haP⟩:=zGE;have st:=St.init w;go_enter Tryz.func25,Tryz.ntmps25
 go_wp2_with (first
  |(refine zAD st rfl 43 _ rfl pc rfl ?_;intro b1 w1 st1;clear st)
  |(refine zAC rfl 43 _ rfl b1 rfl _ hdP haP _ _ (st1.at (i:=0) rfl) (zAQ HS.out) ?_)
  |(go_at_call 32;refine(HC.out _).mono ?_;rintro e w2 ⟨rfl,hbel⟩;have st2:=St.call st1 hbel;clear hbel st1)
  |(refine zAC rfl 43 _ rfl b1 rfl _ hdP haP _ _ (st2.at (i:=0) rfl) (zAQ HS.out) ?_)
  |(go_at_call 55;refine(HSz.out _).mono ?_;rintro e w3 ⟨rfl,hbel⟩;have st3:=St.call st2 hbel;clear hbel st2)
  |(refine wpList_makeOwn rfl 22 _ _ rfl 5 (.int .u8 0) 1 1 zCC zDU zCN zFD .i64 .i64 100 rfl rfl (by decide) (by decide) (by decide) ?_;intro v4 w4 hown4 hbel;have st4:=St.call st3 hbel;have hb1:=zAG (st3.at (i:=0) rfl);have hBw:=st3.size;have hsz:=hbel.size;generalize w3.heap.size=base at *;clear hbel st3;have hc0:=(st4.cell (i:=0) rfl 0).trans H0.out;have hc1:=(st4.cell (i:=0) rfl 1).trans H1.out)
  |(refine zAR st4 rfl 22 4 _ rfl 5 zCC _ 1 zDU zCN (by decide) (by decide) [(0,.int .u8 1),(1,.int .u8 1),(2,.int .u8 0),(3,.int .u8 0)] ?_ _ (fillB4 _ _ _ _) ?_;(·(simp[Act.eval];done));intro b5 w5 st5 hb5;have hrd5:RdB w5 (.slice (some ⟨b5,0,none⟩) 4 4) [1,1,0,0]:=RdB.ext (st5.at (i:=0) rfl) rfl rfl (by decide);have hown5:=zAY hown4 hb5;have hs5:=Nat.le_trans hsz hb5.size)
  |(at_builtin;refine zCE (base:=base) st5.drop (by simpa using hb1) hBw rfl _ _ 22 rfl 5 (.int .u8 0) 1 zCC zDU zCN zFD rfl v4 0 [] rfl hown5 (.slice (some ⟨b5,0,none⟩) 4 4) [1,1,0,0] rfl hrd5 (by simp[maxLen]) (by simp) hs5 ?_;intro v6 w6 st6 hown6 hs6 _;have hrd6:RdB w6 (.slice (some ⟨b1,66,none⟩) 32 32) zAH:=RdB.ext (st6.at (i:=0) rfl) HB.out rfl (by decide);clear st5 hc0 hc1 hrd5 hown5 hown4 hs5)
  |(at_builtin;refine zCE (base:=base) st6 (by simpa using hb1) hBw rfl _ _ 22 rfl 5 (.int .u8 0) 1 zCC zDU zCN zFD rfl v6 (0+[1,1,0,0].length) ([]++zAJ [1,1,0,0]) rfl hown6 (.slice (some ⟨b1,66,none⟩) 32 32) zAH rfl hrd6 (by simp[maxLen,zAH]) (by simp[zAH]) hs6 ?_;intro v7 w7 st7 hown7 hs7 _;clear st6 hrd6 hown6 hs6;have hc0:=(st7.cell (i:=0) rfl 0).trans H0.out))
 have hrd7:RdB w7 v7 ([1,1,0,0]++zAH):=RdB.own (base:=base) (e:=5) (by rw[zCB,List.length_append];simpa using hown7);have HE:Hid ([1,1,0,0]++zAH=zGT):=rfl;have HL7:Hid (([1,1,0,0]++zAH).length=36):=rfl;clear hown7;generalize [1,1,0,0]++zAH=l7 at *;obtain⟨a7,c7,rfl,_⟩:=hrd7.open;refine Inv.wp_region_inv 7 (fun wx=>St w.heap.size w [(b1,pc,43)] wx∧RdB wx (.slice a7 l7.length c7) l7) zBL (by kernel_rfl) ⟨st7.drew,hrd7.call (Below.refl _ _).drew⟩ ?_;simp only[List.take_succ_cons,List.take_zero,List.drop_succ_cons,List.drop_zero]
 iterate 7
  (refine Inv.wpInv_step (fun K hK=>?_);go_simp;apply zAL;· (intro wx hw;go_simp;(try go_ints);(try go_simp);(try (rw[if_pos (by omega)]));(try go_simp);(first | done | rfl))
   refine hK _ ?_;clear hK K)
 refine Inv.wpInv_nil ?_;rintro w8 ⟨st8,hrd8⟩;clear st7 hrd7 hc0
 go_wp2_with (first
  |(refine zAR st8 rfl 205 3 _ rfl 22 sliceSl _ 1 zeroSl sizeSl (by decide) (by decide) [(0,.slice a7 l7.length c7),(1,.slice (some ⟨b1,2,none⟩) 32 32),(2,.slice (some ⟨b1,34,none⟩) 32 32)] ?_ _ (fillP3 _ _ _ _ _ _ _ _ _) ?_;(·(simp[Act.eval];done));intro b9 w9 st9 hb9;have hrd9:=hrd8.call hb9;clear st8 hrd8)
  |(go_at_call 56
    refine(Concat_calls [(.slice a7 l7.length c7,l7),(.slice (some ⟨b1,2,none⟩) 32 32,lf.take 32),(.slice (some ⟨b1,34,none⟩) 32 32,lf.drop 32)] _ _ ⟨by simp[catL,HL7.out,hl],by simp,fun p hp=>?pieces,.inr ⟨b9,_,rfl,st9.at (i:=0) rfl⟩⟩).mono ?_
    case pieces =>
     simp only[List.mem_cons,List.not_mem_nil,or_false] at hp;rcases hp with rfl | rfl | rfl
     ·exact hrd9
     ·exact RdB.ext (st9.at (i:=1) rfl) HLk.out (by simp;omega) (by decide)
     ·exact RdB.ext (st9.at (i:=1) rfl) HLv.out (by simp;omega) (by decide)
    rintro e w10 ⟨v10,rfl,hown,hbel⟩;have st10:=st9.call hbel;have hrd10:=RdS.own hown;clear hbel hown st9 hrd9;have hc98:=(st10.cell (i:=1) rfl 98).trans H98.out))
 refine wp_loop_rounds 1 ?_;rw[rounds_succ];go_wp2;go_ret2;refine⟨_,rfl,?_,st10.below⟩;have e:catL [(Value.slice a7 l7.length c7,l7),(.slice (some ⟨b1,2,none⟩) 32 32,lf.take 32),(.slice (some ⟨b1,34,none⟩) 32 32,lf.drop 32)]=l7++lf:=by
  simp[catL]
 rw[e,HE.out] at hrd10;exact hrd10
end
end Go.Proofs.YtlcngapphloafaaGreatDoor
