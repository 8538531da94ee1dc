/- Parts of the proof that are used by the claim: Sha5, Sha6, Cut, Dig. No condition is added here. -/
import Derived.Test.YtlcngapphloafaaGreatDoorPk11
import Derived.RangeFuncNested
import Derived.RangeFuncBound
import Derived.RangeFuncCalls
import Derived.RangeFuncLeaves
import Derived.RangeFuncWrites
import Derived.Shelf.Abstract
import Derived.Shelf.RegionOpen
import Derived.OwnWalkIn
import Derived.TacticsInMore
import Derived.LoopNIn
import Derived.LoopIn
namespace Go.Proofs.YtlcngapphloafaaGreatDoor
section
set_option maxHeartbeats 2000000
open Go Go.RowKit
attribute [local go_sem] Oper.semAt_some
theorem Chunk_calls(a:Option Addr)(len cap:Nat)(w:World) :
  Calls Tryz.prog 161 #[.slice a len cap,.int .i64 64] w fun e w'=>e=.returned (.func (.func 187) #[] #[.pointer (some ⟨w.heap.size,0,none⟩),.pointer (some ⟨w.heap.size+1,0,none⟩)]) ∧
   w'=(w.alloc (.cells #[.slice a len cap] 22)).alloc (.cells #[.int .i64 64] 3):=by
 go_enter Tryz.func161,Tryz.ntmps161;go_wp2;go_ret;exact⟨rfl,rfl⟩
def upto(M k:Nat):List (Fin M):=(List.finRange M).take k
theorem upto_succ(M k:Nat)(h:k<M):upto M (k+1)=upto M k++[⟨k,h⟩]:=by
 unfold upto;rw[List.take_succ_eq_append_getElem (by simpa using h)];simp
theorem upto_len(M k:Nat)(h:k≤M):(upto M k).length=k:=by unfold upto;simp;omega
theorem upto_all(M:Nat):upto M M=List.finRange M:=by unfold upto;exact List.take_of_length_le (by simp)
set_option maxRecDepth 100000 in
theorem chunk1_in(n:Nat)(l Bs Bn b M:Nat)(Kp:World→World→Prop)(hKp:∀A B,Kp A B→B.cell? ⟨Bs,0,none⟩=A.cell? ⟨Bs,0,none⟩∧B.cell? ⟨Bn,0,none⟩=A.cell? ⟨Bn,0,none⟩)(hn:1≤n)(hM:M≤17179869185)(J Jx:List (Fin M)→World→Prop)
  (hY:∀pre x W,J pre W→pre.length<M→YieldAt Fence.wide (n - 1) Tryz.prog l #[.slice (some ⟨b,64*x.val,none⟩) 64 64] W fun e W' =>
   (e=.returned (.bool true)∧J (pre++[x]) W'∧Kp W W')∨(e=.returned (.bool false)∧Jx (pre++[x]) W'))
  (W:World) (hBs:W.cell? ⟨Bs,0,none⟩=some (.slice (some ⟨b,0,none⟩) (64*M) (64*M))) (hBn:W.cell? ⟨Bn,0,none⟩=some (.int .i64 64)) (hJd:∀pre W,J pre W→J pre W.drew) (h0:J [] W) :
  CallsIn Fence.wide n Tryz.prog 187 #[.func (.yield l) #[] #[],.pointer (some ⟨Bs,0,none⟩),.pointer (some ⟨Bn,0,none⟩)] W fun e W'=>(∃v,e=.returned v) ∧
   ((∃ys,ys=List.finRange M∧J ys W')∨(∃pre,(∃k,k≤M∧pre=upto M k)∧Jx pre W')):=by
 refine callsIn_of_wp Tryz.func187 rfl trivial ?_ rfl;simp only[Tryz.ntmps187,List.size_toArray,List.length_cons,List.length_nil,Nat.reduceAdd,Nat.reduceSub,Array.replicate_succ,Array.replicate_zero,List.push_toArray,List.append_toArray,List.nil_append,List.cons_append]
 gi_wp2
 gi_loopw [4] (fun i wr=>∃k:Nat,k≤M∧i=.int .i64 (64*k:Nat)∧J (upto M k) wr∧wr.cell? ⟨Bs,0,none⟩=some (.slice (some ⟨b,0,none⟩) (64*M) (64*M))∧wr.cell? ⟨Bn,0,none⟩=some (.int .i64 64))
  (fun i _=>64*M - (intOf i).toNat)
 case atStart=>exact⟨0,Nat.zero_le _,rfl,h0,hBs,hBn⟩
 case round =>
  obtain⟨k,hk,rfl,hJs,hcs,hcn⟩:=hrel
  by_cases hlt:k<M
  ·obtain⟨fn,tmps,assign,body,hy,hR⟩:=hY (upto M k) ⟨k,hlt⟩ wr.drew (hJd _ _ hJs) (by rw[upto_len _ _ (by omega)];exact hlt)
   dsimp only at hy
   have hlen:(64*(k:Int)+min 64 ((64*M - 64*k:Nat):Int)).toNat - 64*k=64:=by omega
   have hy2:(Instr.yield l #[.slice (some ⟨b,64*k,none⟩) ((64*(k:Int)+min 64 ((64*M - 64*k:Nat):Int)).toNat - 64*k) ((64*(k:Int)+min 64 ((64*M - 64*k:Nat):Int)).toNat - 64*k)]).run Tryz.prog wr.drew=.ok (.round l fn tmps assign body) wr.drew:=by
    rw[hlen];exact hy
   clear hy hlen
   gi_wp2
   gi_region
   gi_wp2
   refine hR.mono ?_;rintro e W3 (⟨rfl,hJ3,hk3⟩ | ⟨rfl,hJx3⟩)
   ·have hcs3:=(hKp _ _ hk3).1.trans hcs
    have hcn3:=(hKp _ _ hk3).2.trans hcn;clear hcs hcn
    gi_wp2
    go_roundw
    case rel=>exact⟨k+1,by omega,congrArg (Value.int .i64) (by omega),by rw[upto_succ _ _ hlt];exact hJ3,hcs3,hcn3⟩
    case measure=>simp[intOf];omega
   ·gi_wp2
    refine bodyPost_ret (results_none rfl _ _ _) rfl ?_;exact⟨⟨_,rfl⟩,.inr ⟨_,⟨k+1,by omega,(upto_succ _ _ hlt).symm⟩,hJx3⟩⟩
  ·obtain rfl:k=M:=by omega
   gi_wp2
   go_end0
   exact⟨⟨_,rfl⟩,.inl ⟨_,upto_all _,hJs⟩⟩
theorem chunk_stops(n:Nat)(hn:1≤n)(Bs Bn b M:Nat)(hM:M≤17179869185)(Kp:World→World→Prop)(hKp:∀A B,Kp A B→B.cell? ⟨Bs,0,none⟩=A.cell? ⟨Bs,0,none⟩∧B.cell? ⟨Bn,0,none⟩=A.cell? ⟨Bn,0,none⟩)(w:World)
  (hcs:w.cell? ⟨Bs,0,none⟩=some (.slice (some ⟨b,0,none⟩) (64*M) (64*M))) (hcn:w.cell? ⟨Bn,0,none⟩=some (.int .i64 64)) :
  SeqStopsK Fence.wide n Tryz.prog 187 #[.pointer (some ⟨Bs,0,none⟩),.pointer (some ⟨Bn,0,none⟩)] (fun x:Fin M=>#[Value.slice (some ⟨b,64*x.val,none⟩) 64 64]) Kp (fun ys=>ys=List.finRange M) (fun _=>True) M w:=fun l J Jx W hW hJ _ hY h0=>by
 have h1:=(hW.cell (p:=⟨Bs,0,none⟩) (block_lt_of_cell hcs)).trans hcs;have h2:=(hW.cell (p:=⟨Bn,0,none⟩) (block_lt_of_cell hcn)).trans hcn;refine(chunk1_in n l Bs Bn b M Kp hKp hn hM J Jx hY W h1 h2 (fun pre W h=>hJ pre W _ none h ⟨rfl,rfl,rfl,Nat.le_refl _,fun _ _ _=>rfl⟩ (fun r e=>by cases e)) h0).mono ?_;rintro e W' ⟨he,⟨ys,rfl,hj⟩ | ⟨pre,_,hj⟩⟩
 ·exact⟨he,.inl ⟨_,rfl,hj⟩⟩
 ·exact⟨he,.inr ⟨_,trivial,hj⟩⟩
end
section
set_option maxHeartbeats 4000000
open Go Go.RowKit
attribute [local go_sem] Oper.semAt_some
theorem St.ownFrom{β:Type}{B B':Nat}{w0:World}(L:β→List (Nat×Array Value×TypeId))(hB:B≤B'):OwnFrom B' (fun (s:β) W=>St B w0 (L s) W):=by
 intro s W W' row st hg hr;refine⟨st.below.grown hg st.size (fun k e=>Nat.le_trans hB (hr k e).1),Nat.le_trans st.size hg.size,fun p hp=>⟨(st.rows p hp).1,?_⟩,st.nodup⟩;have h:=(st.rows p hp).2;rw[hg.block p.1 (zAG h) (fun e=>?_)]
 ·exact h
 ·obtain⟨_,o,ho,hc⟩:=hr p.1 e.symm
  rw[h] at ho;injection ho with ho;subst ho
  cases hc
theorem St.putDef{B:Nat}{w0 w:World}{L:List (Nat×Array Value×TypeId)}{D:Nat}(st:St B w0 L w)(hB:B≤D)(hK:w.heap[D]?=some (.deferred (some []))):St B w0 L (w.putObj D (.deferred none)) :=
 St.ownFrom (fun _:Unit=>L) hB () w _ (some D) st (grownBy_putObj' w D _) fun k e=>by cases e;exact⟨Nat.le_refl _,_,hK,rfl⟩
theorem retM{P:Program}{F:Fence}{n:Nat}{fn:Func}{R:Ending→World→Prop}{a:Act}{w:World}(D:Nat)(hdf:a.defers=[{target:=.collected D,args:=#[]}])(hK:w.heap[D]?=some (.deferred (some [])))
  (h:bodyPost P fn R .ret {a with defers:=[]} (w.putObj D (.deferred none))):bodyPostM F n P fn R .ret a w:=by
 show LeavesInM F n P fn a.tmps R a.defers .returning w
 rw[hdf];exact⟨by simp,.inl ⟨D,_,rfl,run_takeDeferred hK,h.2⟩⟩
def HasK(K:List Int)(w:World):Prop:=K.length=64∧∃t fz,w.heap[1]?=some (.cells (uv K) t fz)
theorem HasK.call{K:List Int}{w w':World}(h:HasK K w)(hb:Below w.heap.size w w'):HasK K w':=by
 obtain⟨h0,t,fz,ht⟩:=h;exact⟨h0,t,fz,by rw[hb.block _ (zAG ht)];exact ht⟩
def piece(l:List Nat)(x:Nat):List Nat:=(l.drop (64*x)).take 64
theorem piece_get(l:List Nat)(x k:Nat)(hk:k<64):(piece l x).getD k 0=l.getD (64*x+k) 0:=by
 simp[piece,List.getD_eq_getElem?_getD,hk,List.getElem?_drop]
theorem piece_lt(l:List Nat)(x k:Nat)(h:∀y∈l,y<256):(piece l x).getD k 0<256:=by
 rw[List.getD_eq_getElem?_getD]
 cases he:(piece l x)[k]? with
 |none=>decide
 |some y=>exact h y (List.mem_of_mem_drop (List.mem_of_mem_take (List.mem_of_getElem? he)))
def stateF(K:List Int)(l:List Nat)(xs:List Nat):List Int:=xs.foldl (fun S x=>takeF K S (piece l x)) zHB
theorem stateF_snoc(K:List Int)(l:List Nat)(xs:List Nat)(x:Nat):stateF K l (xs++[x])=takeF K (stateF K l xs) (piece l x):=by simp[stateF,List.foldl_append]
theorem stateF_len(K:List Int)(l xs:List Nat):(stateF K l xs).length=8:=by
 rcases List.eq_nil_or_concat xs with rfl | ⟨ys,x,rfl⟩
 ·rfl
 ·rw[List.concat_eq_append,stateF_snoc];exact takeF_len _ _ _
def outB(S:List Int)(i:Nat):Nat:=(S.getD (i / 4) 0 / 2^(24 - 8*(i%4))%256).toNat
def outI(S:List Int)(i:Nat):List Nat:=(List.range 32).map fun t=>if t<i then outB S t else 0
theorem outI_len(S:List Int)(i:Nat):(outI S i).length=32:=by simp[outI]
theorem outI_zero(S:List Int):outI S 0=zAH:=rfl
theorem outI_set(S:List Int)(i:Nat):(outI S i).set i (outB S i)=outI S (i+1):=by
 apply List.ext_getElem
 ·simp[outI]
 ·intro n h1 h2
  rw[List.getElem_set];simp only[outI,List.getElem_map,List.getElem_range]
  by_cases h:i=n
  ·subst h;rw[if_pos rfl,if_pos (by omega)]
  ·rw[if_neg h]
   by_cases h3:n<i
   ·rw[if_pos h3,if_pos (by omega)]
   ·rw[if_neg h3,if_neg (by omega)]
theorem outI_lt(S:List Int)(i:Nat):∀x∈outI S i,x<256:=by
 intro x hx;obtain⟨t,_,rfl⟩:=List.mem_map.1 hx
 split
 ·unfold outB;omega
 ·decide
def shaF(K:List Int)(l:List Nat):List Nat:=outI (stateF K (padF l) (List.range (padN l / 64))) 32
theorem shaF_key(K:List Int)(l:List Nat):Key (shaF K l):=⟨outI_len _ _,outI_lt _ _⟩
theorem zCG:(Tryz.prog.info? 38).bind (·.zero)=some (.agg (kv zAH)):=by kernel_rfl
theorem zBV:(Tryz.prog.info? 38).map (·.size)=some 32:=by kernel_rfl
theorem zEE:Tryz.prog.underlying 38=some (.array 32 5):=by kernel_rfl
theorem zeroFn:(Tryz.prog.info? 285).bind (·.zero)=some .nilFunc:=by kernel_rfl
theorem sizeFn:(Tryz.prog.info? 285).map (·.size)=some 1:=by kernel_rfl
set_option maxRecDepth 100000 in
theorem Sum_calls(K:List Int)(l:List Nat)(v:Value)(w:World)(hb:∀x∈l,x<256)(hl:l.length≤1099511627776)(hv:RdB w v l)(hk:HasK K w) :
  Calls Tryz.prog 126 #[v] w fun e w'=>e=.returned (.agg (kv (shaF K l)))∧Below w.heap.size w w':=by
 have HK:=Lib.hid hk;have HV:=Lib.hid hv;have HPlt:=Lib.hid (padI_lt l hb 8);have hpl:=padN_le l;have hph:padN l≤l.length+72:=by unfold padN;omega
 obtain⟨M,hpe⟩:∃M,padN l=64*M:=⟨_,rfl⟩
 have HF:Hid (shaF K l=outI (stateF K (padF l) (List.range M)) 32):=by unfold Hid shaF;rw[hpe];rw[Nat.mul_div_cancel_left _ (by decide)]
 have hK64:=hk.1;have Hlen:Hid ((padF l).length=64*M):=by unfold Hid;rw[←hpe];exact padI_len l 8
 obtain⟨a,cap,rfl,_⟩:=hv.open;clear hk hv hb;have st:=St.init w;refine(callsIn_wide (n:=3)).1 ?_;refine callsIn_of_wp_marks Tryz.func126 rfl trivial ?_ rfl;simp only[Tryz.ntmps126,List.size_toArray,List.length_cons,List.length_nil,Nat.reduceAdd,Nat.reduceSub,Array.replicate_succ,Array.replicate_zero,List.push_toArray,List.append_toArray,List.nil_append,List.cons_append];refine wpIn_wide.2 ?_
 go_wp2_with (first
  |(refine zAE st rfl 38 rfl _ zCG ?_;intro b2 w1 st1;clear st)
  |(go_at_call 159;refine(start_calls _).mono ?_;rintro e w2 ⟨rfl,hbel⟩;have st2:=st1.call hbel;clear hbel st1)
  |(refine zAE st2 rfl 283 rfl _ zeroState ?_;intro b3 w3 st3;clear st2)
  |(refine zAA st3 rfl 283 _ _ rfl 0 b3 rfl (.agg (uv zHB)) rfl _ _ rfl sizeState rfl (uv_one zHB) _ rfl ?_;intro w4 st4;clear st3)
  |(refine zCS st4 rfl 285 rfl _ zeroFn ?_;intro b4 w5 st5;clear st4)
  |(refine zDG st5 rfl 285 _ _ rfl 0 b4 0 rfl (.func (.func 160) #[.pointer (some ⟨b3,0,none⟩)] #[]) rfl _ _ rfl sizeFn rfl (by decide) rfl _ rfl _ rfl ?_;intro w6 st6;clear st5)
  |(go_at_call 162;refine(Pad_calls l _ _ (HV.out.call st6.below) hl).mono ?_;rintro e w7 ⟨pb,rfl,hpb,hprow,hbel⟩;have st7:=st6.callNew hbel hpb hprow;clear hbel hpb hprow st6)
  |(go_at_call 161;refine(Chunk_calls _ _ _ _).mono ?_;rintro e w8 ⟨rfl,rfl⟩))
 have st8:=(st7.new #[.slice (some ⟨pb,0,none⟩) (64*M) (64*M)] 22).new #[.int .i64 64] 3;rw[World.size_alloc] at st8;generalize hw8:(w7.alloc (.cells #[.slice (some ⟨pb,0,none⟩) (64*M) (64*M)] 22)).alloc (.cells #[.int .i64 64] 3)=w8 at *;have hsz8:w8.heap.size=w7.heap.size+1+1:=by rw[←hw8];simp
 generalize hBs:w7.heap.size=Bs at *;have st9:St w.heap.size w ((b3,uv zHB,283)::(Bs+1,#[.int .i64 64],3)::(Bs,#[.slice (some ⟨pb,0,none⟩) (64*M) (64*M)],22)::(pb,kv (padF l),5)::(b4,#[.func (.func 160) #[.pointer (some ⟨b3,0,none⟩)] #[]],285)::(b2,kv zAH,38)::[]) w8:=st8.front 4 (by simp);clear st7 st8 hw8;have hb3:b3<w8.heap.size:=zAG (st9.at (i:=0) rfl);have hb2:b2<w8.heap.size:=zAG (st9.at (i:=5) rfl);have hcs:w8.cell? ⟨Bs,0,none⟩=some (.slice (some ⟨pb,0,none⟩) (64*M) (64*M)):=st9.cell (i:=2) rfl 0;have hcn:w8.cell? ⟨Bs+1,0,none⟩=some (.int .i64 64):=st9.cell (i:=1) rfl 0;have hbase:=st9.size;refine wpIn_wide.1 (wpIn_rangeFunc_ownG (F:=Fence.wide) (n:=3) rfl (by omega) (gf:=187) (lb:=#[.pointer (some ⟨Bs,0,none⟩),.pointer (some ⟨Bs+1,0,none⟩)]) rfl trivial (enters_of Tryz.func187 (by kernel_rfl) rfl)
  (chunk_stops 2 (by omega) Bs (Bs+1) pb M (by omega) (fun A B=>B.cell? ⟨Bs,0,none⟩=A.cell? ⟨Bs,0,none⟩∧B.cell? ⟨Bs+1,0,none⟩=A.cell? ⟨Bs+1,0,none⟩) (fun _ _ h=>h) w8 hcs hcn)
  (fun h k=>⟨k.1.trans h.1,k.2.trans h.2⟩) (fun W x o o' hx _ _ _=>⟨World.cell?_of_block (World.putObj_heap_other (by show Bs≠x;omega)),World.cell?_of_block (World.putObj_heap_other (by show Bs+1≠x;omega))⟩) (Below.refl _ _) (fun _=>rfl)
  (fun pre W=>St w.heap.size w ((b3,uv (stateF K (padF l) (pre.map (·.val))),283)::(Bs+1,#[.int .i64 64],3)::(Bs,#[.slice (some ⟨pb,0,none⟩) (64*M) (64*M)],22)::(pb,kv (padF l),5)::(b4,#[.func (.func 160) #[.pointer (some ⟨b3,0,none⟩)] #[]],285)::(b2,kv zAH,38)::[]) W)
  (fun _ _ _=>False) (St.ownFrom _ hbase) (fun _ _ _ _ _ h _ _=>h) st9
  (fun x=>{tmps:=#[.slice a l.length cap,undef,.pointer (some ⟨b2,0,none⟩),.pointer (some ⟨b3,0,none⟩),.pointer (some ⟨b4,0,none⟩),.slice (some ⟨pb,64*x.val,none⟩) 64 64,undef,undef,.agg (uv zHB),.func (.func 160) #[.pointer (some ⟨b3,0,none⟩)] #[],.slice a l.length cap,.slice (some ⟨pb,0,none⟩) (64*M) (64*M),.func (.func 187) #[] #[.pointer (some ⟨Bs,0,none⟩),.pointer (some ⟨Bs+1,0,none⟩)],.slice (some ⟨pb,64*x.val,none⟩) 64 64,undef,undef,undef,undef,undef,undef,undef,undef,undef,undef,undef,undef,undef,undef,undef,undef,undef,undef,undef,undef],defers:=[]}) ?assign ?body ?done ?stop)
 case assign =>
  intro l' x W K' hK'
  gi_wp2
  exact hK'
 case stop =>
  rintro D c pre W _ _ h _;exact h.elim
 case body =>
  rintro l' pre x W st _;have hx:=x.isLt;have hW:=st.size;have hc4:W.cell? ⟨b4,0,none⟩=some (.func (.func 160) #[.pointer (some ⟨b3,0,none⟩)] #[]):=st.cell (i:=4) rfl 0
  gi_wp2_with (first
   |(refine And.intro trivial ?_
     gi_at_call 160
     refine(CallsIn.inRound l' (callsIn_wide.2 (take_calls K (stateF K (padF l) (pre.map (·.val))) (piece (padF l) x.val) hK64 (stateF_len _ _ _) (fun k=>?hbyte) w.heap.size b3 pb (64*x.val) 283 w W _ st (fun wx hbx=>(HK.out.call hbx).2) (fun S' wx stx k hk=>?hblk)))).mono ?_
     case hbyte=>exact piece_lt _ _ _ HPlt.out
     case hblk =>
      rw[piece_get _ _ _ hk,stx.cell (i:=3) rfl];exact zFX _ _ (by rw[Hlen.out];omega)
     rintro e W' ⟨⟨v,rfl⟩,st',hg⟩))
  have hcs1:=st.cell (i:=2) rfl 0;have hcs2:=st'.cell (i:=2) rfl 0;have hcn1:=st.cell (i:=1) rfl 0;have hcn2:=st'.cell (i:=1) rfl 0;refine⟨KeepsFrom.of_grownBy hg (by rintro j ⟨⟩;exact hb3),⟨hcs2.trans hcs1.symm,hcn2.trans hcn1.symm⟩,?_⟩;simp only[List.map_append,List.map_cons,List.map_nil];rw[stateF_snoc];exact st'
 case done =>
  rintro D xs W hD rfl st hKd;have hxs:(List.finRange M).map (·.val)=List.range M:=List.ext_getElem (by simp) (by simp);rw[hxs] at st;generalize hS:stateF K (padF l) (List.range M)=S at *;have hS8:S.length=8:=by rw[←hS];exact stateF_len _ _ _
  clear hS hxs hcs hcn st9 Hlen HPlt HK HV;have hbW:=st.size
  go_wp2_with (first
   |(refine zCR st rfl 38 rfl _ zCG ?_;intro b6 W1 st1 hb6 hbl1;have hKd1:=(hbl1.block D (zAG hKd)).trans hKd;have hD6:D<b6:=Nat.lt_of_lt_of_le (zAG hKd) hb6;clear st hKd hbl1))
  rw[←outI_zero S] at st1
  go_loopw [17] (fun i wr=>∃k:Int,0≤k∧k≤32∧i=.int .i64 k∧St w.heap.size w ((b6,kv (outI S k.toNat),38)::(b3,uv S,283)::(Bs+1,#[.int .i64 64],3)::(Bs,#[.slice (some ⟨pb,0,none⟩) (64*M) (64*M)],22)::(pb,kv (padF l),5)::(b4,#[.func (.func 160) #[.pointer (some ⟨b3,0,none⟩)] #[]],285)::(b2,kv zAH,38)::[]) wr∧wr.heap[D]?=some (.deferred (some []))) (fun i _=>(32 - intOf i).toNat)
  case atStart=>exact⟨0,by omega,by omega,rfl,st1,hKd1⟩
  case round =>
   obtain⟨k,k0,k1,rfl,st2,hKd2⟩:=hrel;clear st1 hKd1
   by_cases hlt:k<32
   ·have hcW:wr.cell? ⟨b3,(k / 4).toNat,none⟩=some (.int .u32 (S.getD (k / 4).toNat 0)):=by
     rw[st2.cell (i:=1) rfl (k / 4).toNat,uv_get _ _ (by omega)]
    have Hrow:Hid ((kv (outI S k.toNat)).setIfInBounds k.toNat (.int .u8 (S.getD (k / 4).toNat 0 / 2^(24 - 8*(k%4)).toNat%256))=kv (outI S (k+1).toNat)):=by
     unfold Hid;rw[show (k+1).toNat=k.toNat+1 by omega,←outI_set,←kv_set,outB,show (k / 4).toNat=k.toNat / 4 by omega,show (24 - 8*(k%4)).toNat=24 - 8*(k.toNat%4) by omega,Int.toNat_of_nonneg (Int.emod_nonneg _ (by decide))]
    have Hsz:Hid (k.toNat<(kv (outI S k.toNat)).size):=by unfold Hid;rw[zAF,outI_len];omega
    generalize S.getD (k / 4).toNat 0=X at *
    go_wp2_with (first
     |(refine zBD st2 rfl 5 _ _ rfl 0 b6 k.toNat rfl (.int .u8 (X / 2^(24 - 8*(k%4)).toNat%256)) rfl _ _ rfl zCN rfl Hsz.out rfl _ Hrow.out _ rfl ?_;intro W5 st5 hg5;have hKd5:=(hg5.block D (zAG hKd2) (by rintro⟨⟩;exact Nat.lt_irrefl _ hD6)).trans hKd2;clear st2 hKd2 hg5))
    go_roundw
    case rel=>exact⟨k+1,by omega,by omega,rfl,st5,hKd5⟩
    case measure=>simp[intOf];omega
   ·obtain rfl:k=32:=by omega
    have hF:Hid (outI S (32:Int).toNat=shaF K l):=by unfold Hid;rw[HF.out];rfl
    rw[hF.out] at st2;have Hlen2:Hid ((shaF K l).length=32):=(shaF_key K l).len;clear hF HF;generalize hR:shaF K l=R at *
    go_wp2_with (first
     |(refine zAC rfl 38 _ rfl b6 rfl _ zEE rfl _ _ (st2.at (i:=0) rfl) (by rw[zAF,Hlen2.out];exact zBV) ?_)
     |(refine zCW st2 rfl 38 _ _ rfl 6 b2 rfl (.agg (kv R)) rfl _ _ rfl (by show _=some (kv R).size;rw[zAF,Hlen2.out];exact zBV) (by show (kv R).size=_;rw[zAF,Hlen2.out,zAF];rfl) (zBJ R) _ rfl ?_;intro W3 st3 hg3;have hKd3:=(hg3.block D (zAG hKd2) (by rintro⟨⟩;omega)).trans hKd2))
    have st4:=st3.putDef (by omega) hKd3;exact retM D rfl hKd3 (zBX rfl b2 _ _ _ rfl (st4.at (i:=6) rfl) zEE rfl (by show _=some (kv R).size;rw[zAF,Hlen2.out];exact zBV) rfl ⟨rfl,st4.below⟩)
end
section
set_option maxHeartbeats 1000000
open Go Go.RowKit
theorem keptI_eq(n k:Int)(k0:0≤k)(k1:k<32):min (max (min (max n 0) 256 - 8*k) 0) 8=(keepN (zCV n) k.toNat:Nat):=by
 unfold keepN zCV;omega
theorem and_u8(a b:Nat)(ha:a<256)(hb:b<256):bits .and .u8 (a:Int) (b:Int)=((a &&& b:Nat):Int) :=
 (bits_nat .u8 8 (by decide) wraps_u8 a b ha hb).1
theorem mask_walk(x:Nat)(hx:x<256)(m:Nat)(hm:m≤8):bits .and .u8 (x:Int) (255*2^(8 - (m:Int)).toNat%256)=((maskN x m:Nat):Int):=by
 have e:(255*2^(8 - (m:Int)).toNat%256:Int)=((255*2^(8 - m)%256:Nat):Int):=by
  rw[show (8 - (m:Int)).toNat=8 - m by omega,Int.natCast_emod,Int.natCast_mul,Int.natCast_pow];rfl
 rw[e,and_u8 _ _ hx (Nat.mod_lt _ (by decide)),mask_and (8 - m) (by omega) x hx,show 8 - (8 - m)=m by omega]
theorem zCA{l:List Nat}(h:l.length=32):(Tryz.prog.info? 38).map (·.size)=some (kv l).size:=by rw[zAF,h];exact zBV
theorem Cut_calls(l:List Nat)(hk:Key l)(n:Int)(hn0 : -9223372036854775808≤n)(hn1:n≤9223372036854775807)(w:World) :
  Calls Tryz.prog 125 #[.agg (kv l),.int .i64 n] w fun e w'=>e=.returned (.agg (kv (preC l (zCV n))))∧Below w.heap.size w w':=by
 have HK:=Lib.hid hk;clear hk;have st:=St.init w;go_enter Tryz.func125,Tryz.ntmps125
 go_wp2_with (first | (refine zAD (by assumption) rfl 38 _ rfl _ rfl ?_;intro b1 w1 st1;clear st) | (refine zAE (by assumption) rfl 38 rfl _ zCG ?_;intro b2 w2 st2;clear st1))
 go_loopw [10] (fun i wr=>∃k:Int,0≤k∧k≤32∧i=.int .i64 k∧St w.heap.size w [(b2,kv zAH,38),(b1,kv (curP l (zCV n) k.toNat),38)] wr) (fun i _=>(32 - intOf i).toNat)
 case atStart=>exact⟨0,by omega,by omega,rfl,by rw[show (0:Int).toNat=0 from rfl,curP_zero HK.out];exact st2⟩
 case round =>
  obtain⟨k,k0,k1,rfl,st3⟩:=hrel;clear st2
  by_cases hlt:k<32
  ·have hm:=keptI_eq n k k0 hlt
   have hx:(kv (curP l (zCV n) k.toNat))[k.toNat]?=some (.int .u8 (l.getD k.toNat 0:Nat)):=by
    rw[zFX _ _ (by rw[zHY];omega),curP_get l _ _ _ (by omega),if_neg (by omega)]
   have hkeep:keepN (zCV n) k.toNat≤8:=by unfold keepN;omega
   have hmask:=mask_walk (l.getD k.toNat 0) (HK.out.get _) (keepN (zCV n) k.toNat) hkeep;have hstep:=curP_step l (zCV n) k.toNat (by omega);have Hset:Hid ((kv (curP l (zCV n) k.toNat)).setIfInBounds k.toNat (.int .u8 (bits .and .u8 ((l.getD k.toNat 0:Nat):Int) (255*2^(8 - ((keepN (zCV n) k.toNat:Nat):Int)).toNat%256)))=kv (curP l (zCV n) (k+1).toNat)):=by
    unfold Hid;rw[hmask,kv_set,hstep,show (k+1).toNat=k.toNat+1 by omega]
   clear hmask hstep;have hcl:Hid ((curP l (zCV n) k.toNat).length=32):=zHY _ _ _;have hm8:(keepN (zCV n) k.toNat:Int)≤8:=by omega
   have hm0:(0:Int)≤(keepN (zCV n) k.toNat:Int):=by omega
   clear hkeep;generalize ((keepN (zCV n) k.toNat:Nat):Int)=M at *;generalize ((l.getD k.toNat 0:Nat):Int)=X at *;generalize curP l (zCV n) k.toNat=cur at *;generalize hnxt:curP l (zCV n) (k+1).toNat=nxt at *;have Hnxt:=Lib.hid hnxt.symm;clear hnxt;have Hm:=Lib.hid hm;clear hm;go_wp2;rw[Hm.out];refine zBH 8 st3 zBL (by kernel_rfl) ?_;intro I hI hI';have q:∀wx,I wx→wx.cell? ⟨b1,k.toNat,none⟩=some (.int .u8 X):=fun wx hw=>((hI wx hw).cell (i:=1) rfl _).trans hx
   simp only[List.take_succ_cons,List.take_zero,List.drop_succ_cons,List.drop_zero]
   iterate 8
    (refine Inv.wpInv_step (fun K hK=>?_);go_simp;apply zAL;· (intro wx hw;have q1:=q wx hw;go_simp;(try go_ints);(try go_simp);(try (rw[if_pos (by omega)]));(try go_simp);(first | done | rfl))
     refine hK _ ?_;clear hK K)
   clear q hI hI' hx;refine Inv.wpInv_nil ?_;intro w4 st4;clear st3;refine zDG st4 rfl 5 _ _ rfl 1 b1 k.toNat rfl _ rfl _ _ rfl zGN rfl (by rw[zAF,hcl.out];omega) rfl _ Hset.out _ rfl ?_;intro w5 st5;clear st4 Hset;simp only[List.set_cons_succ,List.set_cons_zero] at st5;go_wp2;go_roundw
   case rel=>exact⟨k+1,by omega,by omega,rfl,Hnxt.out▸st5⟩
   case measure=>simp[intOf];omega
  ·have e:Hid (curP l (zCV n) k.toNat=preC l (zCV n)):=by
    unfold Hid;rw[show k.toNat=32 by omega,curP_end]
   rw[e.out] at st3;have hl2:Hid ((preC l (zCV n)).length=32):=(HK.out.pre _).len;clear e
   go_wp2_with (first | (refine zAC rfl 38 _ rfl b1 rfl _ zEE rfl _ _ (st3.at (i:=1) rfl) (zCA hl2.out) ?_) | (refine zAA st3 rfl 38 _ _ rfl 0 b2 rfl _ rfl _ _ rfl (zCA hl2.out) (by show (kv (preC l (zCV n))).size=_;rw[zAF,hl2.out,zAF];rfl) (zBJ _) _ rfl ?_;intro w6 st6;clear st3))
   exact zBX rfl b2 _ _ _ rfl (st6.at (i:=0) rfl) zEE rfl (zCA hl2.out) rfl ⟨rfl,st6.below⟩
end
section
set_option maxHeartbeats 1000000
open Go Go.RowKit
section
variable {P:Program} {ops:Array Oper} {a:Act} {B:Nat} {w0 w w1 w2:World} {L:List (Nat×Array Value×TypeId)} {cb:Nat} {old cs:Array Value} {t:TypeId}
theorem zDR{Q:Exit→Act→World→Prop}{rest:List Oper}{o:Oper}(hgd:o.guard=none)(ty:TypeId)(x y:Operand)(ho:o.op=.store ty x y)
  (b j:Nat) (hx:a.eval x=.pointer (some ⟨b,j,none⟩)) (v:Value) (hy:a.eval y=v) (old:Array Value) (t:TypeId) (hrow:w.heap[b]?=some (.cells old t (0,0)))
  (hi:(P.info? ty).map (·.size)=some 1) (hv:v.cells=#[v]) (hs:j<old.size) (h1:v.oneCell'=true) (cs':Array Value) (hcs:old.setIfInBounds j v=cs')
  (h:∀w1,w.grownBy w1 (some b)→w1.heap[b]?=some (.cells cs' t (0,0))→wpList P ops Q rest (a.put o.dst undef) w1):wpList P ops Q (o::rest) a w :=
 zBD (B:=0) (w0:=w) (L:=[(b,old,t)]) ⟨Below.refl 0 w,Nat.zero_le _,fun p hp=>by simp at hp;subst hp;exact⟨Nat.zero_le _,hrow⟩,by simp⟩ hgd ty x y ho 0 b j hx v hy old t rfl hi hv hs h1 cs' hcs _ rfl
  fun w1 st hg=>h w1 hg (st.at (i:=0) rfl)
theorem zHX(w:World)(cb:Nat)(cs:Array Value):w.grownBy (w.setRow cb cs) (some cb):=⟨rfl,rfl,rfl,by simp,fun k _ hk=>setRow_other _ _ _ _ (fun e=>hk (by rw[e]))⟩
theorem zCU(hb:Below w.heap.size (w.setRow cb cs) w2):w.grownBy w2 (some cb) :=
 ⟨hb.os,hb.tape,hb.output,by have:=hb.size;simpa using this,fun k hk hne=>(hb.block k hk).trans (setRow_other _ _ _ _ (fun e=>hne (by rw[e])))⟩
theorem St.other(st:St B w0 L w1)(hg:w1.grownBy w2 (some cb))(hcb:cb<B)(h0:w0.heap[cb]?=some (.cells old t (0,0)))(h2:w2.heap[cb]?=some (.cells cs t (0,0))):St B (w0.setRow cb cs) L w2:=by
 refine⟨⟨hg.os.trans st.below.os,hg.tape.trans st.below.tape,hg.output.trans st.below.output,?_,fun k hk=>?_⟩,Nat.le_trans st.size hg.size,fun p hp=>⟨(st.rows p hp).1,?_⟩,st.nodup⟩
 ·have h:=Nat.le_trans st.below.size hg.size
  simpa using h
 ·by_cases e:k=cb
  ·subst e;rw[h2,setRow_heap _ _ _ _ _ _ h0]
  ·rw[hg.block k (Nat.lt_of_lt_of_le hk st.size) (fun e'=>e (Option.some.inj e')),st.below.block k hk,setRow_other _ _ _ _ e]
 ·have h:=(st.rows p hp).2
  rw[hg.block p.1 (zAG h) (fun e'=>by have:=Option.some.inj e';have:=(st.rows p hp).1;omega)];exact h
theorem RdB.turn{v:Value}{l:List Nat}{n:Int}{fr:Nat×Nat}(h:RdB w v l)(hc:w.heap[cb]?=some (.cells #[.int .i64 n] t fr))(hg:w.grownBy w2 (some cb)):RdB w2 v l:=by
 refine⟨h.1,?_⟩;rcases h.2 with h | ⟨b,off,cap,hv,hcc⟩
 ·exact .inl h
 ·refine .inr ⟨b,off,cap,hv,fun i hi=>?_⟩
  have h1:=hcc i hi;refine(World.cell?_of_block (w:=w) (hg.block b (zAS h1) ?_)).trans h1
  ·intro e
   obtain rfl:b=cb:=Option.some.inj e;simp only[World.cell?,hc,Option.isSome_none,Bool.false_eq_true,if_false] at h1
   cases hk:off+i with
   |zero=>rw[hk] at h1;simp at h1
   |succ k=>rw[hk] at h1;simp at h1
theorem HasK.turn{K:List Int}{n:Int}{fr:Nat×Nat}(h:HasK K w)(hc:w.heap[cb]?=some (.cells #[.int .i64 n] t fr))(hg:w.grownBy w2 (some cb)):HasK K w2:=by
 obtain⟨h0,t',fz,h1⟩:=h;refine⟨h0,t',fz,?_⟩;rw[hg.block 1 (zAG h1) ?_]
 ·exact h1
 ·intro e
  obtain rfl:1=cb:=Option.some.inj e;have h2:=congrArg (fun o=>match o with | Obj.cells c _ _=>c.size | _=>0) (Option.some.inj (hc.symm.trans h1));have h3:1=(uv K).size:=h2;rw[uv_size,h0] at h3;exact absurd h3 (by decide)
end
structure HasH (hb cb:Nat)(bits n:Int)(w:World):Prop where
 h:w.heap[hb]?=some (.cells #[.pointer (some ⟨cb,0,none⟩),.int .i64 bits] 82 (0,0))
 c:w.heap[cb]?=some (.cells #[.int .i64 n] 128 (0,0))
theorem HasH.ne{hb cb:Nat}{bits n:Int}{w:World}(h:HasH hb cb bits n w):hb≠cb:=by
 rintro rfl
 have:=h.h.symm.trans h.c;simp at this
theorem HasH.call{hb cb:Nat}{bits n:Int}{w w':World}(h:HasH hb cb bits n w)(hb':Below w.heap.size w w'):HasH hb cb bits n w' :=
 ⟨by rw[hb'.block _ (zAG h.h)];exact h.h,by rw[hb'.block _ (zAG h.c)];exact h.c⟩
theorem HasH.turn{hb cb:Nat}{bits n m:Int}{w w':World}(h:HasH hb cb bits n w)(hg:w.grownBy w' (some cb))(hc:w'.heap[cb]?=some (.cells #[.int .i64 m] 128 (0,0))):HasH hb cb bits m w' :=
 ⟨by rw[hg.block _ (zAG h.h) (fun e=>h.ne (Option.some.inj e))];exact h.h,hc⟩
theorem HasH.cell0{hb cb:Nat}{bits n:Int}{w:World}(h:HasH hb cb bits n w):w.cell? ⟨hb,0,none⟩=some (.pointer (some ⟨cb,0,none⟩)):=by simp[World.cell?,h.h]
theorem HasH.cell1{hb cb:Nat}{bits n:Int}{w:World}(h:HasH hb cb bits n w):w.cell? ⟨hb,1,none⟩=some (.int .i64 bits):=by simp[World.cell?,h.h]
theorem HasH.cellC{hb cb:Nat}{bits n:Int}{w:World}(h:HasH hb cb bits n w):w.cell? ⟨cb,0,none⟩=some (.int .i64 n):=by simp[World.cell?,h.c]
theorem sizeI64:(Tryz.prog.info? 3).map (·.size)=some 1:=by kernel_rfl
def zBE(K:List Int)(bits:Int)(l:List Nat):List Nat:=preC (shaF K l) (zCV bits)
theorem zBG(K:List Int)(bits:Int)(l:List Nat):Key (zBE K bits l):=(shaF_key K l).pre _
theorem zHQ(KK:List Int)(l:List Nat)(v:Value)(hb cb:Nat)(bits n:Int)(w:World)(hh:HasH hb cb bits n w)(hB:0≤bits∧bits≤256)(hn : -4611686018427387904≤n∧n≤4611686018427387904)
  (hby:∀x∈l,x<256) (hl:l.length≤1099511627776) (hv:RdB w v l) (hk:HasK KK w) :
  Calls Tryz.prog 82 #[.pointer (some ⟨hb,0,none⟩),v] w
   fun e w'=>e=.returned (.agg (kv (zBE KK bits l)))∧w.grownBy w' (some cb)∧HasH hb cb bits (n+1) w':=by
 obtain⟨n0,n1⟩:=hn;have HBy:=Lib.hid hby;have HC:=Lib.hid (fun wx=>Cut_calls (shaF KK l) (shaF_key KK l) bits (by omega) (by omega) wx);clear hby;have st:=St.init w;have hcb:cb<w.heap.size:=zAG hh.c;go_enter Tryz.func82,Tryz.ntmps82
 go_wp2_with (first
  |(refine zCR st rfl 38 rfl _ zCG ?_;intro b4 w1 st1 hb4 hbl;clear st;have hh1:=hh.call hbl;have hc0:=hh1.cell0;have hcC:=hh1.cellC;clear hbl)
  |(refine zDR rfl 3 _ _ rfl cb 0 rfl (.int .i64 (n+1)) rfl _ _ hh1.c sizeI64 rfl (Nat.zero_lt_one) rfl _ rfl ?_;intro w2 hg2 hc2;have st2:=st1.other hg2 hcb hh.c hc2;clear st1))
 trace_state
 have Hw2:Hid (∀wx,Below w.heap.size (w.setRow cb #[.int .i64 (n+1)]) wx→HasH hb cb bits (n+1) wx∧RdB wx v l∧HasK KK wx):=by
  intro wx stx;have hg:=zCU stx;have hcx:wx.heap[cb]?=some (.cells #[.int .i64 (n+1)] 128 (0,0)):=by
   rw[stx.block cb hcb];exact setRow_heap _ _ _ _ _ _ hh.c
  exact⟨hh.turn hg hcx,hv.turn hh.c hg,hk.turn hh.c hg⟩
 clear hv hk;refine zBH 7 st2 zBL (by kernel_rfl) ?_;intro I hI hI';have q:∀wx,I wx→wx.cell? ⟨hb,1,none⟩=some (.int .i64 bits):=fun wx hw=>(Hw2.out wx (hI wx hw).below).1.cell1
 simp only[List.take_succ_cons,List.take_zero,List.drop_succ_cons,List.drop_zero]
 iterate 1
  (refine Inv.wpInv_step (fun K hK=>?_);go_simp;apply zAL;· (intro wx hw;have q1:=q wx hw;go_simp;(try go_ints);(try go_simp);(try (rw[if_pos (by omega)]));(try go_simp);(first | done | rfl))
   refine hK _ ?_;clear hK K)
 (refine Inv.wpInv_step (fun K hK=>?_);go_simp;refine zDF hI hI' 126 #[v] ?_ (fun wx stx=>(Sum_calls KK l v wx HBy.out hl (Hw2.out wx stx.below).2.1 (Hw2.out wx stx.below).2.2)) ?_;· (intro wx hw;go_simp)
  refine hK _ ?_;clear hK K)
 iterate 4
  (refine Inv.wpInv_step (fun K hK=>?_);go_simp;apply zAL;· (intro wx hw;have q1:=q wx hw;go_simp;(try go_ints);(try go_simp);(try (rw[if_pos (by omega)]));(try go_simp);(first | done | rfl))
   refine hK _ ?_;clear hK K)
 (refine Inv.wpInv_step (fun K hK=>?_);go_simp;refine zDF hI hI' 125 #[.agg (kv (shaF KK l)),.int .i64 bits] ?_ (fun wx stx=>HC.out wx) ?_;· (intro wx hw;go_simp)
  refine hK _ ?_;clear hK K)
 clear q hI hI';refine Inv.wpInv_nil ?_;intro w3 st3;clear st2;have Hlen:Hid ((zBE KK bits l).length=32):=(zBG KK bits l).len;have hR:preC (shaF KK l) (zCV bits)=zBE KK bits l:=rfl;rw[hR];refine zAA st3 rfl 38 _ _ rfl 0 b4 rfl (.agg (kv (zBE KK bits l))) rfl _ _ rfl (zCA Hlen.out) (by show (kv (zBE KK bits l)).size=_;rw[zAF,Hlen.out,zAF];rfl) (zBJ _) _ rfl ?_;intro w4 st4;go_wp2;exact zBX rfl b4 _ _ _ rfl (st4.at (i:=0) rfl) zEE rfl (zCA Hlen.out) rfl ⟨rfl,zCU st4.below,(Hw2.out _ st4.below).1⟩
theorem DNew_calls(bits:Int)(hB:0≤bits∧bits≤256)(w:World) :
  Calls Tryz.prog 26 #[.int .i64 bits] w fun e w'=>∃hb cb,e=.returned (.tuple #[.pointer (some ⟨hb,0,none⟩),.int .i64 0])∧w.heap.size≤hb∧w.heap.size≤cb∧HasH hb cb bits 0 w'∧Below w.heap.size w w':=by
 obtain⟨h0,h1⟩:=hB;have st:=St.init w;go_enter Tryz.func26,Tryz.ntmps26;go_wp2;go_ret2;have st2:=(st.new #[.int .i64 0] 128).new #[.pointer (some ⟨w.heap.size,0,none⟩),.int .i64 bits] 82;rw[World.size_alloc] at st2;exact⟨_,_,rfl,by omega,by omega,⟨st2.at (i:=0) rfl,st2.at (i:=1) rfl⟩,st2.below⟩
end
end Go.Proofs.YtlcngapphloafaaGreatDoor
