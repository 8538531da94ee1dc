/- Parts of the proof that are used by the claim: TMix, Sha0, Sha1, Sha2. No condition is added here. -/
import Derived.Test.YtlcngapphloafaaGreatDoorPk1
import Derived.Test.YtlcngapphloafaaGreatDoorPk7
import Derived.Maps.AppendAt
import Derived.Maps.Range
import Derived.Lib.BufferWrite
namespace Go.Proofs.YtlcngapphloafaaGreatDoor
section
open Go Go.RowKit
attribute [local irreducible] Inv.wpInv Mix.wpUp
section
variable {P:Program} {ops:Array Oper} {a:Act} {w w0:World} {B:Nat} {L:List (Nat×Array Value×TypeId)}
theorem zBQ(st:St B w0 L w){i:Nat}{o:Oper}{K:Act→World→Prop}(hoi:ops[i]?=some o)(hw:Region.wanted o (yielded ops a.tmps)=true)(t:TypeId)(len:Nat)(parts:Array (Nat×Operand))(ho:o.op=.buildSlice t len parts)(e:TypeId)(ht:P.underlying t=some (.slice e))(z:Value)(size:Nat)
  (hz:(P.info? e).bind (·.zero)=some z) (hsize:(P.info? e).map (·.size)=some size) (hlim:len*size≤16777216) (hpos:0<len*size) (ps:List (Nat×Value)) (hp:(parts.map fun (i,x)=>(i,a.eval x)).toList=ps) (cs:Array Value)
  (hf:Instr.fill (fun i=>some (i*size,size)) ((Array.range (len*size)).map (z.cells[·%z.cells.size]!)) ps=some cs)
  (h:∀b w1,St B w0 ((b,cs,e)::L) w1→Below w.heap.size w w1→K (a.put o.dst (.slice (some ⟨b,0,none⟩) len len)) w1):Mix.mxOp P ops i K a w:=by
 refine Mix.mxOp_go hoi hw ?_
 cases hq:P.info? e with
 |none=>simp[hq] at hz
 |some i =>
  have hi:i.zero=some z:=by simpa[hq] using hz
  have hs:i.size=size:=by simpa[hq] using hsize
  subst hs;subst hp;have hrun:(Instr.buildSlice t len (parts.map fun (i,x)=>(i,a.eval x))).run P w=.ok (.slice (some ⟨w.heap.size,0,none⟩) len len) (w.alloc (.cells cs e)):=by
   have n1:¬len*i.size>2^24:=by omega
   have n2:¬len*i.size=0:=by omega
   simp only[Instr.buildSlice,Sem.run_bind,run_underlying ht,Result.andThen_ok,sizeOf,typeInfo,run_program,hq,Sem.run_pure,n1,n2,if_false,zeroValue,hi,hf,newRow,run_newObj];rfl
  unfold Oper.wp execOp;simp only[ho,Sem.run_bind,hrun,Result.andThen_ok,Sem.run_pure,Oper.upon];exact h _ _ (st.new cs e) ((Below.refl _ _).alloc (Nat.le_refl _) _)
theorem zCR{Q:Exit→Act→World→Prop}{rest:List Oper}{o:Oper}(st:St B w0 L w)(hgd:o.guard=none)(ty:TypeId)(ho:o.op=.alloc ty)(cs:Array Value)(hz:(P.info? ty).bind (·.zero)=some (.agg cs))
  (h:∀b w1,St B w0 ((b,cs,ty)::L) w1→w.heap.size≤b→Below w.heap.size w w1→wpList P ops Q rest (a.put o.dst (.pointer (some ⟨b,0,none⟩))) w1):wpList P ops Q (o::rest) a w:=by
 refine wpList_plain hgd fun K hK=>?_
 cases hq:P.info? ty with
 |none=>simp[hq] at hz
 |some i =>
  have hi:i.zero=some (.agg cs):=by simpa[hq] using hz
  unfold Oper.wp execOp;simp only[ho,Instr.alloc,zeroValue,typeInfo,run_program,hq,hi,newVar,newRow,Sem.run_bind,run_newObj,Sem.run_pure,Result.andThen_ok,Oper.upon];exact hK _ _ (h _ _ (st.new cs ty) (Nat.le_refl _) ((Below.refl _ _).alloc (Nat.le_refl _) _))
theorem zBD{Q:Exit→Act→World→Prop}{rest:List Oper}{o:Oper}(st:St B w0 L w)(hgd:o.guard=none)(ty:TypeId)(x y:Operand)(ho:o.op=.store ty x y)
  (i:Nat) (b j:Nat) (hx:a.eval x=.pointer (some ⟨b,j,none⟩)) (v:Value) (hy:a.eval y=v) (old:Array Value) (t:TypeId) (hL:L[i]?=some (b,old,t))
  (hi:(P.info? ty).map (·.size)=some 1) (hv:v.cells=#[v]) (hs:j<old.size) (h1:v.oneCell'=true)
  (cs':Array Value) (hcs:old.setIfInBounds j v=cs') (L':List (Nat×Array Value×TypeId)) (hL':L.set i (b,cs',t)=L')
  (h:∀w1,St B w0 L' w1→w.grownBy w1 (some b)→wpList P ops Q rest (a.put o.dst undef) w1):wpList P ops Q (o::rest) a w:=by
 refine wpList_plain hgd fun K hK=>?_
 unfold Oper.wp execOp
 cases hq:P.info? ty with
 |none=>simp[hq] at hi
 |some inf =>
  have hsz:inf.size=1:=by simpa[hq] using hi
  have hst:(storeCells ⟨b,j,none⟩ [v]).run P w=.ok () (w.setCell ⟨b,j,none⟩ v):=by
   have hcell:w.cell? ⟨b,j,none⟩=some old[j]:=by rw[st.cell hL j];simp[hs]
   have hadd:(⟨b,j,none⟩:Addr).add 0=⟨b,j,none⟩:=by simp[Addr.add]
   simp only[storeCells,Sem.run_bind,hadd];rw[run_store P w _ v _ h1,hcell];simp[st.free hL j]
  have hsv:(storeVar ty ⟨b,j,none⟩ v).run P w=.ok () (w.setCell ⟨b,j,none⟩ v):=by
   simp[storeVar,Sem.run_bind,sizeOf,typeInfo,hq,hsz,hv,hst]
  simp only[ho,hx,hy,Instr.storeAt,Instr.sureAddr,Sem.run_bind,Sem.run_pure,Result.andThen_ok,hsv,Oper.upon];subst hcs;exact hK _ _ (h _ (st.set hL j v hL') (Go.Lib.grownBy_setCell w b j v))
theorem Up.kept{w1:World}{row:Option Nat}:Mix.Up (fun wx=>St B w0 L wx∧w1.grownBy wx row):=fun _ _ h hb=>⟨h.1.call hb,h.2.trans ⟨hb.os,hb.tape,hb.output,hb.size,fun k hk _=>hb.block k hk⟩⟩
theorem zDZ{w1 wx w2:World}{row:Option Nat}(h:w1.grownBy wx row)(hb:Below wx.heap.size wx w2):w1.grownBy w2 row:=h.trans ⟨hb.os,hb.tape,hb.output,hb.size,fun k hk _=>hb.block k hk⟩
end
end
section
open Go Go.RowKit
def rotK(k:Int):Int:=Go.bits .and .u64 (IntKind.u64.wrap k) 31
theorem rotK_range(k:Int):0≤rotK k∧rotK k≤31:=by
 have h0:0≤IntKind.u64.wrap k∧IntKind.u64.wrap k<18446744073709551616:=by
  simp only[IntKind.wrap,IntKind.signed,IntKind.bits];simp;omega
 obtain⟨u,hu⟩:∃u:Nat,IntKind.u64.wrap k=u:=⟨(IntKind.u64.wrap k).toNat,by omega⟩
 unfold rotK;rw[hu,show (31:Int)=((31:Nat):Int) from rfl,bits_and_u64_nat u 31 (by omega) (by decide)]
 have:=Nat.and_le_right (n:=u) (m:=31);omega
def rot32(x k:Int):Int:=Go.bits .or .u32 (IntKind.u32.wrap (x*2^(rotK k).toNat)) (x / 2^(32 - rotK k).toNat)
theorem Rot_calls(x k:Int)(w:World):Calls Tryz.prog 211 #[.int .u32 x,.int .i64 k] w fun e w'=>e=.returned (.int .u32 (rot32 x k))∧w'=w:=by
 obtain⟨h0,h1⟩:=rotK_range k;unfold rot32;have hk:Go.bits .and .u64 (IntKind.u64.wrap k) 31=rotK k:=rfl;generalize rotK k=K at *;go_enter Tryz.func211,Tryz.ntmps211;go_wp2;go_ret;exact⟨rfl,rfl⟩
end
section
set_option maxHeartbeats 1000000
open Go Go.RowKit
def zHH(x:Int)(l:List Int):Int:=l.foldl (fun s n=>Go.bits .xor .u32 s (rot32 x (-n))) 0
theorem Rd.open{w:World}{v:Value}{l:List Int}(h:Rd w v l):∃a cap,v=.slice a l.length cap ∧
  Hid (0<l.length→∃b off,a=some ⟨b,off,none⟩∧∀w':World,Below w.heap.size w w'→∀k:Nat,k<l.length→w'.cell? ⟨b,off+k,none⟩=some (.int .i64 (l.getD k 0))):=by
 rcases h.2 with ⟨rfl,a,cap,rfl⟩ | ⟨b,off,cap,rfl,hc⟩
 ·exact⟨a,cap,rfl,fun h=>absurd h (by decide)⟩
 ·refine⟨_,cap,rfl,fun _=>⟨b,off,rfl,fun w' hb k hk=>?_⟩⟩
  rw[hb.cell (zAS (hc k hk))];exact hc k hk
theorem right_calls(x:Int)(l:List Int)(v:Value)(w:World)(hv:Rd w v l)(hl:∀n∈l,0≤n∧n≤31) :
  Calls Tryz.prog 186 #[.int .u32 x,v] w fun e w'=>e=.returned (.int .u32 (zHH x l))∧w'=w:=by
 have hm:=hv.1;unfold maxLen at hm;obtain⟨a,cap,rfl,Hc⟩:=hv.open;have HL:=Lib.hid hl;clear hv hl;go_enter Tryz.func186,Tryz.ntmps186;go_wp2
 go_loop [5,10] (fun s i=>∃k:Int,0≤k∧k≤(l.length:Int)∧i=.int .i64 k∧s=.int .u32 (zHH x (l.take k.toNat))) (fun _ i=>((l.length:Int) - intOf i).toNat)
 case atStart=>exact⟨0,by omega,by omega,rfl,rfl⟩
 case round =>
  obtain⟨k,k0,k1,rfl,rfl⟩:=hrel
  by_cases hlt:k<(l.length:Int)
  ·obtain⟨b,off,rfl,hcell⟩:=Hc.out (by omega)
   have hk:k.toNat<l.length:=by omega
   have hc:=hcell w (Below.refl _ _) k.toNat hk;have hr:=HL.out _ (List.getElem_mem hk);have hg:l.getD k.toNat 0=l[k.toNat]:=by simp[List.getD_eq_getElem?_getD,hk]
   have Hnext:Hid (zHH x (l.take (k+1).toNat)=Go.bits .xor .u32 (zHH x (l.take k.toNat)) (rot32 x (-l[k.toNat]))):=by
    unfold Hid zHH;rw[show (k+1).toNat=k.toNat+1 by omega,List.take_succ_eq_append_getElem hk,List.foldl_append];rfl
   rw[hg] at hc;clear hcell hg;generalize l[k.toNat]=N at *;generalize zHH x (l.take k.toNat)=S at *
   go_wp2_with (first | (go_at_call 211;refine(Rot_calls x (-N) w).mono ?_;rintro e wn ⟨rfl,rfl⟩))
   go_roundw
   case rel=>exact⟨k+1,by omega,by omega,rfl,congrArg (Value.int .u32) Hnext.out.symm⟩
   case measure=>simp[intOf];omega
  ·have e:l.take k.toNat=l:=List.take_of_length_le (by omega)
   rw[e];clear e;go_wp2;go_ret;exact⟨rfl,rfl⟩
end
section
open Go Go.RowKit
def uv(l:List Int):Array Value:=(l.map fun x=>Value.int .u32 x).toArray
theorem uv_size(l:List Int):(uv l).size=l.length:=by simp[uv]
theorem uv_get(l:List Int)(i:Nat)(h:i<l.length):(uv l)[i]?=some (.int .u32 (l.getD i 0)):=by
 simp[uv,List.getD_eq_getElem?_getD,h]
theorem uv_set(l:List Int)(i:Nat)(x:Int):(uv l).setIfInBounds i (.int .u32 x)=uv (l.set i x):=by
 apply Array.ext_getElem?;intro k;simp only[uv,Array.getElem?_setIfInBounds,List.getElem?_toArray,List.getElem?_map,List.getElem?_set,List.size_toArray,List.length_map]
 by_cases h1:i=k
 ·subst h1
  by_cases h2:i<l.length
  ·simp[h2]
  ·simp[h2]
 ·simp[h1]
theorem uv_one(l:List Int):∀u∈(uv l).toList,u.oneCell'=true:=by
 intro u hu;simp only[uv,List.mem_map] at hu;obtain⟨n,_,rfl⟩:=hu;rfl
theorem run_index_word{P:Program}(w:World)(t e:TypeId)(n:Nat)(ht:P.underlying t=some (.array n e))(he:P.underlying e=some (.int .u32))(hs:(P.info? e).map (·.size)=some 1)(l:List Int)(hl:l.length=n)(k:Int)(k0:0≤k)(k1:k<n) :
  (Instr.index t (.agg (uv l)) (.int .i64 k)).run P w=.ok (.int .u32 (l.getD k.toNat 0)) w:=by
 cases hq:P.info? e with
 |none=>simp[hq] at hs
 |some i =>
  have hz:i.size=1:=by simpa[hq] using hs
  have hg:(isAgg e).run P w=.ok false w:=by simp[isAgg,run_underlying he]
  have hp:(part e (uv l) k.toNat).run P w=.ok (.int .u32 (l.getD k.toNat 0)) w:=by
   have:=uv_get l k.toNat (by omega);simp[part,Sem.run_bind,hg,this]
  simp only[Instr.index,Sem.run_bind,run_underlying ht,Result.andThen_ok,asIntOf,Sem.run_pure];simp[sizeOf,typeInfo,hq,hz,k0,k1,hp]
def add32(x y:Int):Int:=IntKind.u32.wrap (x+y)
def zFE(x y:Int):Int:=Go.bits .xor .u32 x y
def and32(x y:Int):Int:=Go.bits .and .u32 x y
def or32(x y:Int):Int:=Go.bits .or .u32 x y
def wordJ(l:List Nat)(i:Nat):Nat→Int
 |0=>0
 |j+1=>or32 (IntKind.u32.wrap (wordJ l i j*256)) (l.getD (4*i+j) 0:Nat)
def zIF(l:List Nat)(i j:Nat):List Int:=(List.range 16).map fun t=>if t<i then wordJ l t 4 else if t=i then wordJ l i j else 0
theorem rowW_len(l:List Nat)(i j:Nat):(zIF l i j).length=16:=by simp[zIF]
theorem rowW_zero(l:List Nat):zIF l 0 0=List.replicate 16 0:=by
 apply List.ext_getElem
 ·simp[zIF]
 ·intro n h1 h2
  simp only[zIF,List.getElem_map,List.getElem_range,List.getElem_replicate];rw[if_neg (by omega)]
  split
  ·rfl
  ·rfl
theorem rowW_get(l:List Nat)(i j:Nat)(h:i<16):(zIF l i j).getD i 0=wordJ l i j:=by
 simp[zIF,List.getD_eq_getElem?_getD,h]
theorem rowW_set(l:List Nat)(i j:Nat):(zIF l i j).set i (wordJ l i (j+1))=zIF l i (j+1):=by
 apply List.ext_getElem
 ·simp[zIF]
 ·intro n h1 h2
  rw[List.getElem_set];simp only[zIF,List.getElem_map,List.getElem_range]
  by_cases h:i=n
  ·subst h;simp
  ·rw[if_neg h]
   by_cases h3:n<i
   ·rw[if_pos h3,if_pos h3]
   ·rw[if_neg h3,if_neg h3,if_neg (fun e=>h e.symm),if_neg (fun e=>h e.symm)]
theorem rowW_next(l:List Nat)(i:Nat):zIF l i 4=zIF l (i+1) 0:=by
 apply List.ext_getElem
 ·simp[zIF]
 ·intro n h1 h2
  simp only[zIF,List.getElem_map,List.getElem_range]
  by_cases h3:n<i
  ·rw[if_pos h3,if_pos (by omega)]
  ·rw[if_neg h3]
   by_cases h4:n=i
   ·subst h4;rw[if_pos rfl,if_pos (by omega)]
   ·rw[if_neg h4,if_neg (by omega)]
    split
    ·rfl
    ·rfl
def mixV(x0 x1 x9 x14:Int):Int:=IntKind.u32.wrap (x0+(zFE (zHH x1 [7,18]) (x1 / 8)+x9+zFE (zHH x14 [17,19]) (x14 / 1024)))
def mixW(W:List Int)(i:Nat):List Int :=
 if i<16 then W else
  W.set (i%16) (mixV (W.getD (i%16) 0) (W.getD ((i+1)%16) 0) (W.getD ((i+9)%16) 0) (W.getD ((i+14)%16) 0))
structure Eight where
 a:Int
 b:Int
 c:Int
 d:Int
 e:Int
 f:Int
 g:Int
 h:Int
def turnT(s:Eight)(k wat:Int):Int:=(s.h+zHH s.e [6,11,25]+zFE s.g (and32 s.e (zFE s.f s.g))+k+wat)%4294967296
def turn8(s:Eight)(t:Int):Eight :=
 ⟨((t+zHH s.a [2,13,22])%4294967296+or32 (and32 s.a s.b) (and32 s.c (or32 s.a s.b)))%4294967296,s.a,s.b,s.c,(s.d+t)%4294967296,s.e,s.f,s.g⟩
def zEU(K:List Int)(W0:List Int)(s0:Eight):Nat→List Int×Eight
 |0=>(W0,s0)
 |i+1 =>
  let p:=zEU K W0 s0 i
  let W:=mixW p.1 i
  (W,turn8 p.2 (turnT p.2 (K.getD i 0) (W.getD (i%16) 0)))
theorem mixW_len(W:List Int)(i:Nat):(mixW W i).length=W.length:=by unfold mixW;split<;>simp
theorem roundsN_len(K W0:List Int)(s0:Eight)(h:W0.length=16):∀i,(zEU K W0 s0 i).1.length=16
 |0=>h
 |i+1=>by
  show (mixW (zEU K W0 s0 i).1 i).length=16
  rw[mixW_len,roundsN_len K W0 s0 h i]
def zGS(S:List Int):Eight:=⟨S.getD 0 0,S.getD 1 0,S.getD 2 0,S.getD 3 0,S.getD 4 0,S.getD 5 0,S.getD 6 0,S.getD 7 0⟩
def zFI(s:Eight):List Int:=[s.a,s.b,s.c,s.d,s.e,s.f,s.g,s.h]
def addS(S:List Int)(s:Eight)(i:Nat):List Int:=(List.range 8).map fun t=>if t<i then add32 (S.getD t 0) ((zFI s).getD t 0) else S.getD t 0
theorem addS_len(S:List Int)(s:Eight)(i:Nat):(addS S s i).length=8:=by simp[addS]
theorem addS_zero(S:List Int)(s:Eight)(h:S.length=8):addS S s 0=S:=by
 apply List.ext_getElem
 ·simp[addS,h]
 ·intro n h1 h2
  simp[addS,List.getD_eq_getElem?_getD,h2]
theorem addS_get(S:List Int)(s:Eight)(i:Nat)(h:i<8):(addS S s i).getD i 0=S.getD i 0:=by
 simp[addS,List.getD_eq_getElem?_getD,h]
theorem addS_set(S:List Int)(s:Eight)(i:Nat):(addS S s i).set i (add32 (S.getD i 0) ((zFI s).getD i 0))=addS S s (i+1):=by
 apply List.ext_getElem
 ·simp[addS]
 ·intro n h1 h2
  rw[List.getElem_set];simp only[addS,List.getElem_map,List.getElem_range]
  by_cases h:i=n
  ·subst h;rw[if_pos rfl,if_pos (by omega)]
  ·rw[if_neg h]
   by_cases h3:n<i
   ·rw[if_pos h3,if_pos (by omega)]
   ·rw[if_neg h3,if_neg (by omega)]
def takeF(K:List Int)(S:List Int)(l:List Nat):List Int:=addS S (zEU K (zIF l 16 0) (zGS S) 64).2 8
theorem takeF_len(K S:List Int)(l:List Nat):(takeF K S l).length=8:=addS_len _ _ _
theorem zeroW:(Tryz.prog.info? 311).bind (·.zero)=some (.agg (uv (List.replicate 16 0))):=by kernel_rfl
theorem zID:(Tryz.prog.info? 243).map (·.size)=some 1:=by kernel_rfl
theorem agg64:Tryz.prog.underlying 312=some (.array 64 243):=by kernel_rfl
theorem size64:(Tryz.prog.info? 312).map (·.size)=some 64:=by kernel_rfl
theorem zeroState:(Tryz.prog.info? 283).bind (·.zero)=some (.agg (uv (List.replicate 8 0))):=by kernel_rfl
theorem sizeState:(Tryz.prog.info? 283).map (·.size)=some 8:=by kernel_rfl
theorem aggState:Tryz.prog.underlying 283=some (.array 8 243):=by kernel_rfl
def zHB:List Int:=[1779033703,3144134277,1013904242,2773480762,1359893119,2600822924,528734635,1541459225]
theorem builtStart:Tryz.prog.built 283 [(0,.int .u32 1779033703),(1,.int .u32 3144134277),(2,.int .u32 1013904242),(3,.int .u32 2773480762),(4,.int .u32 1359893119),(5,.int .u32 2600822924),(6,.int .u32 528734635),(7,.int .u32 1541459225)]=some (uv zHB):=by kernel_rfl
theorem builtEight(a b c d e f g h:Int):Tryz.prog.built 244 [(0,.int .u32 a),(1,.int .u32 b),(2,.int .u32 c),(3,.int .u32 d),(4,.int .u32 e),(5,.int .u32 f),(6,.int .u32 g),(7,.int .u32 h)]=some (uv [a,b,c,d,e,f,g,h]):=by kernel_rfl
theorem fill2(x y:Int):Instr.fill (fun i=>some (i*1,1)) ((Array.range (2*1)).map ((Value.int .i64 0).cells[·%(Value.int .i64 0).cells.size]!)) [(0,.int .i64 x),(1,.int .i64 y)]=some (iv [x,y]):=by kernel_rfl
theorem fill3(x y z:Int):Instr.fill (fun i=>some (i*1,1)) ((Array.range (3*1)).map ((Value.int .i64 0).cells[·%(Value.int .i64 0).cells.size]!)) [(0,.int .i64 x),(1,.int .i64 y),(2,.int .i64 z)]=some (iv [x,y,z]):=by kernel_rfl
theorem right_own(x:Int)(l:List Int)(n b:Nat)(wx:World)(hn:l.length=n)(t:TypeId)(h:wx.heap[b]?=some (.cells (iv l) t (0,0)))(hl:∀m∈l,0≤m∧m≤31)(hm:n≤1000) :
  Calls Tryz.prog 186 #[.int .u32 x,.slice (some ⟨b,0,none⟩) n n] wx fun e w'=>e=.returned (.int .u32 (zHH x l))∧Below wx.heap.size wx w':=by
 subst hn;refine(right_calls x l _ wx (Rd.row (by unfold maxLen;omega) h) hl).mono ?_;rintro e w' ⟨rfl,rfl⟩;exact⟨rfl,Below.refl _ _⟩
end
end Go.Proofs.YtlcngapphloafaaGreatDoor
