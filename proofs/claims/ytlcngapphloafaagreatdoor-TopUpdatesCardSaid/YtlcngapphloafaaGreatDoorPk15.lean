/- Parts of the proof that are used by the claim: KeyOf, Tree2, Tree3, Back, At1, Put, Put2, PTools, Prove, Rules, PCheck, PCheck2, Codec1. No condition is added here. -/
import Derived.Test.YtlcngapphloafaaGreatDoorPk14
import Derived.Laws.ResultCell
namespace Go.Proofs.YtlcngapphloafaaGreatDoor
section
set_option maxHeartbeats 1000000
open Go Go.RowKit
theorem zHL{P:Program}{ty:TypeId}{n:Nat}(hagg:∃d,P.underlying ty=some d∧zGJ d=true)(hi:(P.info? ty).map (·.size)=some n){w:World}{b off:Nat}{l:List Nat}(hl:n≤l.length)
  (hc:∀k,k<l.length→w.cell? ⟨b,off+k,none⟩=some (.int .u8 (l.getD k 0:Nat))):(loadVar ty ⟨b,off,none⟩).run P w=.ok (.agg (kv (l.take n))) w:=by
 obtain⟨d,hu,hd⟩:=hagg;have hlen:(zAJ (l.take n)).length=n:=by rw[zAI,List.length_take];omega
 have hcells:=run_loadCells_list (P:=P) w ⟨b,off,none⟩ (zAJ (l.take n)) (fun j v hv=>by
  have hadd:(⟨b,off,none⟩:Addr).add j=⟨b,off+j,none⟩:=by unfold Addr.add;split<;>simp_all
  have hj:j<n:=by have:=(List.getElem?_eq_some_iff.1 hv).1;rwa [hlen] at this
  rw[hadd,hc j (by omega),←hv,zHP _ j (by rw[List.length_take];omega)];simp[List.getD_eq_getElem?_getD,hj])
 cases hq:P.info? ty with
 |none=>simp[hq] at hi
 |some i =>
  have hs:i.size=n:=by simpa[hq] using hi
  have hag:(isAgg ty).run P w=.ok true w:=by
   unfold isAgg;rw[Sem.run_bind,run_underlying hu w]
   cases d<;>simp_all [zGJ]
  rw[hlen,zBK] at hcells;simp[loadVar,Sem.run_bind,hag,sizeOf,typeInfo,hq,hs,hcells]
section
variable {P:Program} {ops:Array Oper} {rest:List Oper} {o:Oper} {a:Act} {w:World} {Q:Exit→Act→World→Prop}
theorem wpList_loadB(hgd:Region.wanted o (yielded ops a.tmps)=true)(ty:TypeId)(x:Operand)(ho:o.op=.load ty x)
  (b off n:Nat) (hx:a.eval x=.pointer (some ⟨b,off,none⟩)) (hagg:∃d,P.underlying ty=some d∧zGJ d=true) (hi:(P.info? ty).map (·.size)=some n) (l:List Nat) (hl:n≤l.length)
  (hc:∀k,k<l.length→w.cell? ⟨b,off+k,none⟩=some (.int .u8 (l.getD k 0:Nat)))
  (h:wpList P ops Q rest (a.put o.dst (.agg (kv (l.take n)))) w):wpList P ops Q (o::rest) a w:=by
 refine zCP hgd fun K hK=>?_
 unfold Oper.wp execOp;have hl:=zHL (P:=P) hagg hi hl hc;simp only[ho,hx,Instr.loadAt,Instr.sureAddr,Sem.run_bind,Sem.run_pure,Result.andThen_ok,hl,Oper.upon];exact hK _ _ h
theorem zEP{fn:Func}{R:Ending→World→Prop}{p u:Tmp}{ty:TypeId}(hr:fn.results=#[.cell p ty,.tmp u])(g:Nat)(cs:Array Value)(t:TypeId)(hagg:∃d,P.underlying ty=some d∧zGJ d=true)
  (hp:a.tmps.getD p undef=.pointer (some ⟨g,0,none⟩)) (hg:w.heap[g]?=some (.cells cs t (0,0))) (hi:(P.info? ty).map (·.size)=some cs.size) (v:Value) (hv:a.tmps.getD u undef=v) (hdf:a.defers=[])
  (hR:R (.returned (.tuple #[.agg cs,v])) w):bodyPost P fn R .ret a w:=by
 obtain⟨d,hu,hd⟩:=hagg;have h:=zDD (P:=P) w g 0 cs.size t ty cs (0,0) d hg hu hd hi (by omega);rw[Nat.zero_add,Array.extract_size] at h;refine⟨hdf,_,?_,hR⟩;rw[results_cell_tmp hr,hp,hv];simp[asAddr,h,Result.andThen]
end
theorem arrayAtKey(a:Addr)(cap:Nat)(w:World):(Instr.arrayAt 37 (.slice (some a) 32 cap)).run Tryz.prog w=.ok (.pointer (some a)) w:=by kernel_rfl
set_option maxRecDepth 20000 in
theorem KeyOf_calls(l:List Nat)(v:Value)(hl:l.length=32)(w:World)(hv:RdB w v l) :
  Calls Tryz.prog 139 #[v] w fun e w'=>e=.returned (.tuple #[.agg (kv l),.int .i64 0])∧Below w.heap.size w w':=by
 obtain⟨a,cap,rfl,Hc⟩:=hv.open;obtain⟨b,off,rfl,hc⟩:=Hc.out (by omega);have HC:=Lib.hid hc;have Hl:=Lib.hid hl;have Hle:Hid (32≤l.length):=by unfold Hid;omega
 have Htk:Hid (l.take 32=l):=List.take_of_length_le (by omega);clear hc hv Hc;rw[hl];have st:=St.init w;have hat:=arrayAtKey ⟨b,off,none⟩ cap;go_enter Tryz.func139,Tryz.ntmps139
 go_wp2_with (first
  |(refine zAE st rfl 37 rfl _ zEL ?_;intro b2 w1 st1;clear st)
  |(refine wpList_loadB rfl 37 _ rfl b off 32 rfl zBN zBC l Hle.out (HC.out _ st1.below) ?_;rw[Htk.out])
  |(refine zAA st1 rfl 37 _ _ rfl 0 b2 rfl (.agg (kv l)) rfl _ _ rfl (zAX Hl.out) (by show (kv l).size=_;rw[zAF,Hl.out,zAF];rfl) (zBJ _) _ rfl ?_;intro w4 st4;clear st1))
 exact zEP rfl b2 _ _ zBN rfl (st4.at (i:=0) rfl) (zAX Hl.out) _ rfl rfl ⟨rfl,st4.below⟩
end
section
set_option maxHeartbeats 1000000
open Go Go.RowKit
theorem shapeEntry:shapeOf Tryz.prog 52=some (33,[(0,32),(32,1)]):=by kernel_rfl
theorem zIT(k:List Nat)(a:Option Addr)(n c:Nat)(hk:k.length=32):Tryz.prog.built 52 (zBB 0 [.agg (kv k),.slice a n c])=some (zAV k (.slice a n c)):=by
 rw[zGW shapeEntry [.agg (kv k),.slice a n c] (by simp[consec,Value.cells,zAF,hk]) (by simp[catV,Value.cells,zCJ,zAI,hk])];simp[catV,Value.cells,zAV,←zBK]
theorem zEA:∃z:Array Value,z.size=33∧(Tryz.prog.info? 52).bind (·.zero)=some (.agg z):=⟨zAV (List.replicate 32 0) (.slice none 0 0),by unfold zAV;rw[Array.size_append,zAF];rfl,by kernel_rfl⟩
theorem zDB:(Tryz.prog.info? 52).map (·.size)=some 33:=by kernel_rfl
theorem zFR:∃d,Tryz.prog.underlying 52=some d∧zGJ d=true:=by
 have h:(Tryz.prog.underlying 52).map zGJ=some true:=by kernel_rfl
 cases hq:Tryz.prog.underlying 52 with
 |none=>rw[hq] at h;cases h
 |some d=>rw[hq] at h;exact⟨d,rfl,Option.some.inj h⟩
theorem zCM(k:List Nat)(a:Option Addr)(n c:Nat):∀u∈(zAV k (.slice a n c)).toList,u.oneCell'=true:=by
 intro u hu;unfold zAV at hu;rw[Array.toList_append,List.mem_append] at hu;rcases hu with hu | hu
 ·exact zBJ _ u hu
 ·obtain rfl:u=.slice a n c:=by simpa using hu
  rfl
theorem zBM(k:List Nat)(s:Value)(hk:k.length=32):(zAV k s).size=33:=by unfold zAV;rw[Array.size_append,zAF,hk];rfl
set_option maxRecDepth 20000 in
theorem entry_calls(k:List Nat)(v:Value)(hk:k.length=32)(a:Option Addr)(n c:Nat)(hn:n≤65535)(w:World)(hv:RdB w v k) :
  Calls Tryz.prog 89 #[v,.slice a n c] w fun e w'=>e=.returned (.tuple #[.agg (zAV k (.slice a n c)),.int .i64 0])∧Below w.heap.size w w':=by
 have HO:=Lib.hid (fun wx h=>KeyOf_calls k v hk wx h);have HV:=Lib.hid hv;have Hk:=Lib.hid hk;have HB:=Lib.hid (zIT k a n c hk);have HS:=Lib.hid (zBM k (.slice a n c) hk);have H1:=Lib.hid (zCM k a n c);obtain⟨ze,hze,hz0⟩:=zEA;clear hv;generalize zAV k (.slice a n c)=ec at *;have st:=St.init w;go_enter Tryz.func89,Tryz.ntmps89
 go_wp2_with (first
  |(refine zAE st rfl 52 rfl _ hz0 ?_;intro b4 w1 st1;clear st)
  |(go_at_call 139;refine(HO.out _ (HV.out.call st1.below)).mono ?_;rintro e w2 ⟨rfl,hbel⟩;have st2:=st1.call hbel;clear st1 hbel)
  |(refine zAE st2 rfl 37 rfl _ zEL ?_;intro b6 w3 st3;clear st2)
  |(refine zAA st3 rfl 37 _ _ rfl 0 b6 rfl (.agg (kv k)) rfl _ _ rfl (zAX Hk.out) (by show (kv k).size=_;rw[zAF,Hk.out,zAF];rfl) (zBJ _) _ rfl ?_;intro w4 st4;clear st3)
  |(refine zAC rfl 37 _ rfl b6 rfl _ zBF rfl _ _ (st4.at (i:=0) rfl) (zAX Hk.out) ?_)
  |(refine zAM rfl 52 _ rfl (zBB 0 [.agg (kv k),.slice a n c]) ?_ _ HB.out ?_;(·(simp[Act.eval,zBB];done)))
  |(refine zAA st4 rfl 52 _ _ rfl 1 b4 rfl (.agg ec) rfl _ _ rfl (by show _=some ec.size;rw[HS.out];exact zDB) (by show ec.size=_;rw[HS.out,hze]) H1.out _ rfl ?_;intro w5 st5;clear st4))
 exact zEP rfl b4 _ _ zFR rfl (st5.at (i:=1) rfl) (by show _=some ec.size;rw[HS.out];exact zDB) _ rfl rfl ⟨rfl,st5.below⟩
end
section
set_option maxHeartbeats 1000000
open Go Go.RowKit
theorem zBU{ec:Array Value}(h:ec.size=33):(Tryz.prog.info? 52).map (·.size)=some ec.size:=by rw[h];exact zDB
set_option maxRecDepth 20000 in
theorem start_ok(tb:Nat)(op:ByteArray)(k:List Nat)(v:Value)(hk:k.length=32)(a:Option Addr)(n c:Nat)(hn:n≤65535)(w:World)(hv:RdB w v k) :
  Calls Tryz.prog 47 #[.pointer (some ⟨tb,0,none⟩),.string op,v,.slice a n c] w fun e w'=>e=.returned (.tuple #[.agg (zAV k (.slice a n c)),.nilIface])∧Below w.heap.size w w':=by
 have HE:=Lib.hid (fun wx h=>entry_calls k v hk a n c hn wx h);have HV:=Lib.hid hv;have HS:=Lib.hid (zBM k (.slice a n c) hk);have H1:=Lib.hid (zCM k a n c);obtain⟨ze,hze,hz0⟩:=zEA;obtain⟨dE,hdE,haE⟩:=zFR;clear hv;generalize zAV k (.slice a n c)=ec at *;have st:=St.init w;go_enter Tryz.func47,Tryz.ntmps47
 go_wp2_with (first
  |(refine zAE st rfl 52 rfl _ hz0 ?_;intro b8 w1 st1;clear st)
  |(go_at_call 89;refine(HE.out _ (HV.out.call st1.below)).mono ?_;rintro e w2 ⟨rfl,hbel⟩;have st2:=st1.call hbel;clear st1 hbel)
  |(refine zAE st2 rfl 52 rfl _ hz0 ?_;intro b10 w3 st3;clear st2)
  |(refine zAA st3 rfl 52 _ _ rfl 0 b10 rfl (.agg ec) rfl _ _ rfl (zBU HS.out) (by show ec.size=_;rw[HS.out,hze]) H1.out _ rfl ?_;intro w4 st4;clear st3))
 have st4':St w.heap.size w [(b10,ec,52),(b8,ze,52)] w4:=st4;clear st4;refine zBH 4 st4' zBL (by kernel_rfl) ?_;intro I hI hI';simp only[List.take_succ_cons,List.take_zero,List.drop_succ_cons,List.drop_zero]
 (refine Inv.wpInv_step (fun K hK=>?_);go_simp;refine zDP 52 _ rfl b10 rfl _ hdE haE _ _ (fun wx hw=>(hI wx hw).at (i:=0) rfl) (zBU HS.out) ?_
  refine hK _ ?_;clear hK K)
 iterate 2
  (refine Inv.wpInv_step (fun K hK=>?_);go_simp;apply zAL;· (intro wx hw;go_simp;(try go_ints);(try go_simp);(try (rw[if_pos (by omega)]));(try go_simp);(first | done | rfl))
   refine hK _ ?_;clear hK K)
 (refine Inv.wpInv_step (fun K hK=>?_);go_simp;refine zDF hI hI' 88 #[.string op,.int .i64 0,.int .i64 0] ?_ (fun wx stx=>(failOK_calls (.string op) (.int .i64 0) wx).mono (fun e w' h=>⟨h.1,h.2▸Below.refl _ _⟩)) ?_;· (intro wx hw;go_simp)
  refine hK _ ?_;clear hK K)
 refine Inv.wpInv_nil ?_;intro w6 st6;clear hI hI' st4'
 go_wp2_with (first
  |(refine zAA st6 rfl 52 _ _ rfl 1 b8 rfl (.agg ec) rfl _ _ rfl (zBU HS.out) (by show ec.size=_;rw[HS.out,hze]) H1.out _ rfl ?_;intro w7 st7;clear st6))
 exact zEP rfl b8 _ _ ⟨dE,hdE,haE⟩ rfl (st7.at (i:=1) rfl) (zBU HS.out) _ rfl rfl ⟨rfl,st7.below⟩
end
section
set_option maxHeartbeats 2000000
open Go Go.RowKit
attribute [local go_sem] Oper.semAt_some
theorem BackN_calls(w:World) :
  Calls Tryz.prog 141 #[.slice none 0 0] w fun e w'=>∃Bs,e=.returned (.func (.func 167) #[] #[.pointer (some ⟨Bs,0,none⟩)]) ∧
   St w.heap.size w [(Bs,#[.slice none 0 0],106)] w':=by
 have st:=St.init w;go_enter Tryz.func141,Tryz.ntmps141
 go_wp2_with (first
  |(refine zCO st rfl 106 _ rfl (.slice none 0 0) rfl ?_;intro b1 w1 st1;clear st))
 go_ret;exact⟨_,rfl,st1⟩
set_option maxRecDepth 100000 in
theorem backN1_in(n l Bs:Nat)(J:List Unit→World→Prop)(W:World)(hc:W.cell? ⟨Bs,0,none⟩=some (.slice none 0 0))(h0:J [] W) :
  CallsIn Fence.wide n Tryz.prog 167 #[.func (.yield l) #[] #[],.pointer (some ⟨Bs,0,none⟩)] W fun e W'=>(∃v,e=.returned v)∧J [] W':=by
 refine callsIn_of_wp Tryz.func167 rfl trivial ?_ rfl;simp only[Tryz.ntmps167,List.size_toArray,List.length_cons,List.length_nil,Nat.reduceAdd,Nat.reduceSub,Array.replicate_succ,Array.replicate_zero,List.push_toArray,List.append_toArray,List.nil_append,List.cons_append]
 gi_wp2
 gi_loopw [3] (fun i wr=>i=.int .i64 (-1)∧J [] wr) (fun _ _=>0)
 case atStart=>exact⟨rfl,h0⟩
 case round =>
  obtain⟨rfl,hJs⟩:=hrel
  gi_wp2
  go_end0
  exact⟨⟨_,rfl⟩,hJs⟩
theorem backN_stops(n:Nat)(Bs:Nat)(Kp:World→World→Prop)(w:World)(hc:w.cell? ⟨Bs,0,none⟩=some (.slice none 0 0)) :
  SeqStopsK Fence.wide n Tryz.prog 167 #[.pointer (some ⟨Bs,0,none⟩)] (fun _:Unit=>#[Value.int .i64 0,.pointer none]) Kp (fun ys=>ys=[]) (fun _=>True) 0 w:=fun l J Jx W hW _ _ _ h0=>by
 refine(backN1_in n l Bs J W ((hW.cell (zAS hc)).trans hc) h0).mono ?_;rintro e W' ⟨he,hj⟩;exact⟨he,.inl ⟨_,rfl,hj⟩⟩
end
section
set_option maxHeartbeats 4000000
open Go Go.RowKit
attribute [local go_sem] Oper.semAt_some
set_option maxRecDepth 100000 in
theorem At1_calls(p:Option Addr)(b9:Nat)(c2 c3 c4:Value)(w:World)(hc9:w.cell? ⟨b9,0,none⟩=some (.slice none 0 0)) :
  Calls Tryz.prog 140 #[.pointer p,.pointer (some ⟨b9,0,none⟩),c2,c3,c4] w fun e w'=>e=.returned (.pointer p)∧Below w.heap.size w w':=by
 have h9:=zAS hc9;have st:=St.init w;refine(callsIn_wide (n:=3)).1 ?_;refine callsIn_of_wp_marks Tryz.func140 rfl trivial ?_ rfl;simp only[Tryz.ntmps140,List.size_toArray,List.length_cons,List.length_nil,Nat.reduceAdd,Nat.reduceSub,Array.replicate_succ,Array.replicate_zero,List.push_toArray,List.append_toArray,List.nil_append,List.cons_append];refine wpIn_wide.2 ?_
 go_wp2_with (first
  |(refine zCO st rfl 59 _ rfl (.pointer p) rfl ?_;intro b5 w3 st3;clear st;have hc9':=(st3.below.cell h9).trans hc9)
  |(go_at_call 141;refine(BackN_calls _).mono ?_;rintro e w4 ⟨Bs,rfl,stw⟩))
 have st5:St w.heap.size w ((Bs,#[.slice none 0 0],106)::(b5,#[.pointer p],59)::[]) w4:=st3.join stw;clear st3 stw;have hcn:w4.cell? ⟨Bs,0,none⟩=some (.slice none 0 0):=st5.cell (i:=0) rfl 0;have hbase:=st5.size;refine wpIn_wide.1 (wpIn_rangeFunc_ownG (F:=Fence.wide) (n:=3) rfl (by omega) (gf:=167) (lb:=#[.pointer (some ⟨Bs,0,none⟩)]) rfl trivial (enters_of Tryz.func167 (by kernel_rfl) rfl)
  (backN_stops 2 Bs (fun _ _=>True) w4 hcn)
  (fun _ _=>trivial) (fun _ _ _ _ _ _ _ _=>trivial) (Below.refl _ _) (fun _=>rfl)
  (fun pre W=>pre=[]∧St w.heap.size w ((Bs,#[.slice none 0 0],106)::(b5,#[.pointer p],59)::[]) W)
  (fun _ _ _=>False) ?own (fun _ _ _ _ _ h _ _=>h) ⟨rfl,st5⟩
  (fun _=>{tmps:=#[.pointer p,.pointer (some ⟨b9,0,none⟩),c2,c3,c4,.pointer (some ⟨b5,0,none⟩),.pointer none,.int .i64 0,.pointer none,.slice none 0 0,.func (.func 167) #[] #[.pointer (some ⟨Bs,0,none⟩)],.int .i64 0,.pointer none,undef,undef,undef,undef,undef,undef,undef,undef,undef,undef],defers:=[]}) ?assign ?body ?done ?stop)
 case own =>
  intro s W W' row h hg hr;exact⟨h.1,St.ownFrom (fun _:Unit=>_) hbase () W W' row h.2 hg hr⟩
 case assign =>
  intro l' x W K' hK'
  gi_wp2
  exact hK'
 case stop =>
  rintro D c pre W _ _ h _;exact h.elim
 case body =>
  rintro l' pre x W _ h;exact absurd h (Nat.not_lt_zero _)
 case done =>
  rintro D xs W hD rfl ⟨_,st⟩ hKd;have hc5:=st.cell (i:=1) rfl 0;go_wp2;have st7:=st.putDef (by omega) hKd;refine retM D rfl hKd ⟨rfl,.pointer p,?_,rfl,st7.below⟩;exact results_tmp (fn:=Tryz.f140) rfl _ _ _
end
section
set_option maxHeartbeats 1000000
open Go Go.RowKit
theorem zeroSN2:(Tryz.prog.info? 106).bind (·.zero)=some (.slice none 0 0):=by kernel_rfl
set_option maxRecDepth 20000 in
theorem AtNil_calls(KK:List Int)(k l:List Nat)(a:Option Addr)(c:Nat)(hb cb:Nat)(bits n:Int)(w:World)(hh:HasH hb cb bits n w)(hB:0≤bits∧bits≤256)(hn : -4611686018427387904≤n∧n<4611686018427387904)
  (hk:Key k) (hby:∀x∈l,x<256) (hl:l.length≤1099511627770) (hv:RdB w (.slice a l.length c) l) (hK:HasK KK w) :
  Calls Tryz.prog 90 #[.pointer (some ⟨hb,0,none⟩),.pointer none,.agg (zAV k (.slice a l.length c)),.int .i64 0] w
   fun e w'=>∃nb a' c',e=.returned (.pointer (some ⟨nb,0,none⟩))∧w.heap.size≤nb ∧
    w'.heap[nb]?=some (.cells (zCF (zED k (zBE KK bits (2::l)) (.slice a' l.length c')) (zBE KK bits (0::(k++zBE KK bits (2::l))))) 182 (0,0)) ∧
    RdB w' (.slice a' l.length c') l∧w.grownBy w' (some cb)∧HasH hb cb bits (n+2) w':=by
 have HH:=Lib.hid hh;have HV:=Lib.hid hv;have HKK:=Lib.hid hK;have HN:=Lib.hid (fun wx h1 h2 h3=>zIR KK k l a c hb cb bits n wx h1 hB hn hk hby hl h2 h3);have HES:=Lib.hid (zBM k (.slice a l.length c) hk.len);obtain⟨dE,hdE,haE⟩:=zFR;clear hh hv hK hB hn hk hby hl;have st:=St.init w;generalize zAV k (.slice a l.length c)=ec at *;generalize l.length=ln at *;go_enter Tryz.func90,Tryz.ntmps90
 go_wp2_with (first
  |(refine zCO st rfl 29 _ rfl (.pointer (some ⟨hb,0,none⟩)) rfl ?_;intro b4 w1 st1;clear st)
  |(refine zAD st1 rfl 52 _ rfl ec rfl ?_;intro b6 w2 st2;clear st1)
  |(refine zCO st2 rfl 3 _ rfl (.int .i64 0) rfl ?_;intro b7 w3 st3;clear st2)
  |(refine zCS st3 rfl 106 rfl _ zeroSN2 ?_;intro b9 w4 st4;clear st3;have hc7:=st4.cell (i:=1) rfl 0;have hc4:=st4.cell (i:=3) rfl 0))
 go_loopw [1,10] (fun x d wr=>x=.pointer none∧d=.int .i64 0∧St w.heap.size w [(b9,#[.slice none 0 0],106),(b7,#[.int .i64 0],3),(b6,ec,52),(b4,#[.pointer (some ⟨hb,0,none⟩)],29)] wr) (fun _ _ _=>0)
 case atStart=>exact⟨rfl,rfl,st4⟩
 case round =>
  obtain⟨rfl,rfl,st5⟩:=hrel;clear st4 hc7 hc4;have hc4:=st5.cell (i:=3) rfl 0;have st6:=StH.init HH.out st5
  go_wp2_with (first
   |(go_at_call 39;refine(zDT _).mono ?_;rintro e w6 ⟨rfl,rfl⟩)
   |(refine zAC rfl 52 _ rfl b6 rfl _ hdE haE _ _ (st5.at (i:=2) rfl) (by rw[HES.out];exact zDB) ?_)
   |(go_at_call 143;refine(HN.out _ (StH.has st6 HH.out) (StH.rd st6 HH.out HV.out) (StH.hasK st6 HH.out HKK.out)).mono ?_;rintro e w7 ⟨nb,a',c',rfl,hnb,hrow,hrd,hg,hh7⟩;have st7:=StH.sum st6 HH.out hg hh7))
  refine Inv.wp_region_inv 11 (fun wx=>Below w7.heap.size w7 wx) zBL (by kernel_rfl) (Below.refl _ _).drew ?_;simp only[List.take_succ_cons,List.take_zero,List.drop_succ_cons,List.drop_zero]
  iterate 1
   (refine Inv.wpInv_step (fun K hK=>?_);go_simp;apply zAL;· (intro wx hw;go_simp;(try go_ints);(try go_simp);(try (rw[if_pos (by omega)]));(try go_simp);(first | done | rfl))
    refine hK _ ?_;clear hK K)
  (refine Inv.wpInv_step (fun K hK=>?_);go_simp;refine⟨.int .i64 0,zDM 39 #[.pointer none] (fun wx _=>by go_simp) (fun wx hw=>(zDT wx).mono (fun e w' h=>⟨h.1,h.2▸hw⟩)),?_⟩
   refine hK _ ?_;clear hK K)
  iterate 2
   (refine Inv.wpInv_step (fun K hK=>?_);go_simp;apply zAL;· (intro wx hw;go_simp;(try go_ints);(try go_simp);(try (rw[if_pos (by omega)]));(try go_simp);(first | done | rfl))
    refine hK _ ?_;clear hK K)
  iterate 6 (refine Inv.wpInv_step (fun K hK=>?_);go_simp;refine hK _ ?_;clear hK K)
  iterate 1
   (refine Inv.wpInv_step (fun K hK=>?_);go_simp;apply zAL;· (intro wx hw;go_simp;(try go_ints);(try go_simp);(try (rw[if_pos (by omega)]));(try go_simp);(first | done | rfl))
    refine hK _ ?_;clear hK K)
  refine Inv.wpInv_nil ?_;intro w8 hb8;have hc9:=(hb8.cell (zAS (st7.cell (i:=0) rfl 0))).trans (st7.cell (i:=0) rfl 0);have st8:=St.call st7 hb8
  go_wp2_with (first
   |(go_at_call 140;refine(At1_calls (some ⟨nb,0,none⟩) b9 _ _ _ _ hc9).mono ?_;rintro e w9 ⟨rfl,hb9⟩))
  have hbt:=hb8.trans (hb9.mono hb8.size);have st9:=St.call st8 hb9;go_ret;exact⟨nb,a',c',rfl,Nat.le_trans st6.size hnb,(hbt.block nb (zAG hrow)).trans hrow,hrd.call hbt,StH.grown st9,StH.has st9 HH.out⟩
end
section
set_option maxHeartbeats 2000000
open Go Go.RowKit
attribute [local irreducible] Inv.wpInv Mix.wpUp
theorem zCY{B cb:Nat}{w w':World}(hg:w.grownBy w' (some cb))(hc:cb<w.heap.size)(h:B≤cb):Below B w w' :=
 (Below.refl B w).grown hg (by omega) (fun k e=>by cases e;exact h)
set_option maxRecDepth 20000 in
theorem PutNil_calls(KK:List Int)(k l:List Nat)(a:Option Addr)(c:Nat)(hb cb:Nat)(bits n:Int)(w:World)(hh:HasH hb cb bits n w)(hB:0≤bits∧bits≤256)(hn : -4611686018427387904≤n∧n<4611686018427387904)
  (hk:Key k) (hby:∀x∈l,x<256) (hl:l.length≤1099511627770) (hv:RdB w (.slice a l.length c) l) (hK:HasK KK w) :
  Calls Tryz.prog 48 #[.pointer (some ⟨hb,0,none⟩),.pointer none,.agg (zAV k (.slice a l.length c))] w
   fun e w'=>∃nb a' c',e=.returned (.pointer (some ⟨nb,0,none⟩))∧w.heap.size≤nb ∧
    w'.heap[nb]?=some (.cells (zCF (zED k (zBE KK bits (2::l)) (.slice a' l.length c')) (zBE KK bits (0::(k++zBE KK bits (2::l))))) 182 (0,0)) ∧
    RdB w' (.slice a' l.length c') l∧w.grownBy w' (some cb)∧HasH hb cb bits (n+2) w':=by
 have HH:=Lib.hid hh;have HV:=Lib.hid hv;have HKK:=Lib.hid hK;have HN:=Lib.hid (fun wx h1 h2 h3=>AtNil_calls KK k l a c hb cb bits n wx h1 hB hn hk hby hl h2 h3);have HES:=Lib.hid (zBM k (.slice a l.length c) hk.len);obtain⟨dE,hdE,haE⟩:=zFR;clear hh hv hK hB hn hk hby hl;have st:=St.init w;generalize zAV k (.slice a l.length c)=ec at *;generalize l.length=ln at *;go_enter Tryz.func48,Tryz.ntmps48
 go_wp2_with (first
  |(refine zAD st rfl 52 _ rfl ec rfl ?_;intro b5 w2 st2;clear st;have st6:=StH.init HH.out st2)
  |(refine zAC rfl 52 _ rfl b5 rfl _ hdE haE _ _ (st2.at (i:=0) rfl) (zBU HES.out) ?_)
  |(go_at_call 90;refine(HN.out _ (StH.has st6 HH.out) (StH.rd st6 HH.out HV.out) (StH.hasK st6 HH.out HKK.out)).mono ?_;rintro e w7 ⟨nb,a',c',rfl,hnb,hrow,hrd,hg,hh7⟩;have st7:=StH.sum st6 HH.out hg hh7))
 go_ret;exact⟨nb,a',c',rfl,Nat.le_trans st6.size hnb,hrow,hrd,StH.grown st7,StH.has st7 HH.out⟩
def HasTr(tb hb:Nat)(r:Option Addr)(w:World):Prop:=w.heap[tb]?=some (.cells #[.pointer (some ⟨hb,0,none⟩),.pointer r] 111 (0,0))
theorem HasTr.cell0{tb hb:Nat}{r:Option Addr}{w:World}(h:HasTr tb hb r w):w.cell? ⟨tb,0,none⟩=some (.pointer (some ⟨hb,0,none⟩)):=by unfold HasTr at h;simp[World.cell?,h]
theorem HasTr.cell1{tb hb:Nat}{r:Option Addr}{w:World}(h:HasTr tb hb r w):w.cell? ⟨tb,1,none⟩=some (.pointer r):=by unfold HasTr at h;simp[World.cell?,h]
theorem HasTr.call{tb hb:Nat}{r:Option Addr}{w w':World}(h:HasTr tb hb r w)(hb':Below w.heap.size w w'):HasTr tb hb r w':=(hb'.block tb (zAG h)).trans h
theorem HasTr.turn{tb hb cb:Nat}{r:Option Addr}{bits n:Int}{w w':World}(h:HasTr tb hb r w)(hh:HasH hb cb bits n w)(hg:w.grownBy w' (some cb)):HasTr tb hb r w':=by
 refine(hg.block tb (zAG h) (fun e=>?_)).trans h;obtain rfl:tb=cb:=Option.some.inj e
 have:=h.symm.trans hh.c;simp at this
theorem HasH.keep{tb hb cb:Nat}{r:Option Addr}{bits n:Int}{w w':World}(hh:HasH hb cb bits n w)(h:HasTr tb hb r w)(hg:w.grownBy w' (some tb)):HasH hb cb bits n w':=by
 unfold HasTr at h;refine⟨(hg.block hb (zAG hh.h) (fun e=>?_)).trans hh.h,(hg.block cb (zAG hh.c) (fun e=>?_)).trans hh.c⟩
 ·obtain rfl:hb=tb:=Option.some.inj e
  have:=h.symm.trans hh.h;simp at this
 ·obtain rfl:cb=tb:=Option.some.inj e
  have:=h.symm.trans hh.c;simp at this
set_option maxRecDepth 20000 in
theorem TPut_calls(KK:List Int)(tb:Nat)(k l:List Nat)(vk:Value)(a:Option Addr)(c:Nat)(hb cb:Nat)(bits n:Int)(w:World)(ht:HasTr tb hb none w)(hh:HasH hb cb bits n w)(hB:0≤bits∧bits≤256)(hn : -4611686018427387904≤n∧n<4611686018427387904)
  (hk:Key k) (hby:∀x∈l,x<256) (hl:l.length≤65535) (hvk:RdB w vk k) (hv:RdB w (.slice a l.length c) l) (hK:HasK KK w) :
  Calls Tryz.prog 20 #[.pointer (some ⟨tb,0,none⟩),vk,.slice a l.length c] w
   fun e w'=>∃nb a' c',e=.returned .nilIface∧HasTr tb hb (some ⟨nb,0,none⟩) w' ∧
    w'.heap[nb]?=some (.cells (zCF (zED k (zBE KK bits (2::l)) (.slice a' l.length c')) (zBE KK bits (0::(k++zBE KK bits (2::l))))) 182 (0,0)) ∧
    HasH hb cb bits (n+2) w'∧∀B,B≤tb→B≤cb→Below B w w':=by
 have HT:=Lib.hid ht;have HH:=Lib.hid hh;have HV:=Lib.hid hv;have HVK:=Lib.hid hvk;have HKK:=Lib.hid hK;have HS:=Lib.hid (fun wx h=>start_ok tb (String.toUTF8 "put") k vk hk.len a l.length c hl wx h);have HN:=Lib.hid (fun wx h1 h2 h3=>PutNil_calls KK k l a c hb cb bits n wx h1 hB hn hk hby (by omega) h2 h3);have HES:=Lib.hid (zBM k (.slice a l.length c) hk.len);have HE1:=Lib.hid (zCM k a l.length c);obtain⟨dE,hdE,haE⟩:=zFR;obtain⟨ze,hze,hz0⟩:=zEA;clear ht hh hv hvk hK hB hn hk hby hl;have st:=St.init w;generalize zAV k (.slice a l.length c)=ec at *;generalize l.length=ln at *;go_enter Tryz.func20,Tryz.ntmps20
 go_wp2_with (first
  |(go_at_call 47;refine(HS.out _ HVK.out).mono ?_;rintro e w1 ⟨rfl,hbel⟩;have st1:=St.call st hbel;clear st hbel)
  |(refine zAE st1 rfl 52 rfl _ hz0 ?_;intro b7 w2 st2;clear st1)
  |(refine zAA st2 rfl 52 _ _ rfl 0 b7 rfl (.agg ec) rfl _ _ rfl (zBU HES.out) (by show ec.size=_;rw[HES.out,hze]) HE1.out _ rfl ?_;intro w3 st3;clear st2;have st4:=StH.init HH.out st3))
 have st4':StH w cb n [(b7,ec,52)] w3:=st4;clear st3 st4;have q:∀wx,(∃m,StH w cb m [(b7,ec,52)] wx)→wx.cell? ⟨tb,0,none⟩=some (.pointer (some ⟨hb,0,none⟩))∧wx.cell? ⟨tb,1,none⟩=some (.pointer none):=fun wx ⟨_,hw⟩=>by
  have h:=HT.out.turn HH.out (StH.grown hw);exact⟨h.cell0,h.cell1⟩
 refine Mix2.wp_region_mix (J:=fun wx=>∃m,StH w cb m [(b7,ec,52)] wx) 11 (StH w cb n [(b7,ec,52)]) zBL (by kernel_rfl) st4'.drew ?_;intro F inv;refine Mix2.good_batch (f:=1) F St.up (fun _ h=>⟨_,h⟩) [0,1,2,3,4,5,6,7,8,9] _ _ inv (by kernel_rfl) ?_;clear inv st4'
 iterate 9
  (refine Mix.wpUp_cons rfl (fun K hK=>?_);go_simp;apply zAU;· (intro wx hw;have q1:=q wx hw;go_simp;(try go_ints);(try go_simp);(try (rw[if_pos (by omega)]));(try go_simp);(first | done | rfl))
   refine hK _ ?_;clear hK K)
 (refine Mix.wpUp_cons rfl (fun K hK=>?_);go_simp;refine zFB 52 _ rfl b7 rfl _ hdE haE _ _ (fun wx hw=>hw.choose_spec.at (i:=0) rfl) (zBU HES.out) ?_
  refine hK _ ?_;clear hK K)
 refine Mix.wpUp_nil ?_;intro inv;refine Mix2.good_one (i:=10) (f:=0) (by kernel_rfl) inv (fun w6 st6=>?_);clear inv q;refine zAT rfl rfl 48 #[.pointer (some ⟨hb,0,none⟩),.pointer none,.agg ec] (by go_simp) ?_;refine(HN.out _ (StH.has st6 HH.out) (StH.rd st6 HH.out HV.out) (StH.hasK st6 HH.out HKK.out)).mono ?_;rintro e w7 ⟨nb,a',c',rfl,hnb,hrow,hrd,hg,hh7⟩;have st7:=StH.sum st6 HH.out hg hh7;refine⟨_,rfl,fun wx=>StH w cb (n+2) [(b7,ec,52)] wx∧wx.heap[nb]?=some (.cells (zCF (zED k (zBE KK bits (2::l)) (.slice a' ln c')) (zBE KK bits (0::(k++zBE KK bits (2::l))))) 182 (0,0)),?_,⟨st7,hrow⟩,fun _ h=>⟨_,h.1⟩,fun inv=>?_⟩
 ·exact fun wx wy h hb=>⟨St.call h.1 hb,(hb.block nb (zAG h.2)).trans h.2⟩
 have hN6:=Nat.le_trans st6.size hnb;clear st6 hg hrow hrd st7 hh7 inv F hnb w6 w7;refine⟨by kernel_rfl,fun w7 ⟨st7,hrow⟩=>?_⟩;have ht7:=HT.out.turn HH.out (StH.grown st7);have hh7:=StH.has st7 HH.out;simp only[List.drop_succ_cons,List.drop_zero,Act.put,List.getElem_toArray,List.getElem_cons_succ,List.getElem_cons_zero,List.setIfInBounds_toArray,List.set_cons_succ,List.set_cons_zero]
 go_wp2_with (first
  |(refine zDR rfl 59 _ _ rfl tb 1 rfl (.pointer (some ⟨nb,0,none⟩)) rfl _ _ ht7 zFU rfl (by simp) rfl _ rfl ?_;intro w8 hg8 ht8))
 have htl:=zAG HT.out;have hnt:nb≠tb:=by have:=st7.below.size;simp at this;have h6:=hN6;omega
 go_ret;refine⟨rfl,nb,ht8,⟨a',c',(hg8.block nb (zAG hrow) (fun e=>hnt (Option.some.inj e))).trans hrow⟩,hh7.keep ht7 hg8,fun B h1 h2=>?_⟩;exact(zCY (StH.grown st7) (zAG HH.out.c) h2).trans (zCY hg8 (zAG ht7) h1)
theorem zIQ(tb hb:Nat)(r:Option Addr)(w:World)(ht:HasTr tb hb r w) :
  Calls Tryz.prog 16 #[.pointer (some ⟨tb,0,none⟩)] w fun e w'=>e=.returned (.pointer (some ⟨hb,0,none⟩))∧w'=w:=by
 have h0:=ht.cell0;clear ht;go_enter Tryz.func16,Tryz.ntmps16;go_wp2;go_ret;exact⟨rfl,rfl⟩
theorem TNode_calls(tb hb:Nat)(r:Option Addr)(w:World)(ht:HasTr tb hb r w) :
  Calls Tryz.prog 17 #[.pointer (some ⟨tb,0,none⟩)] w fun e w'=>e=.returned (.pointer r)∧w'=w:=by
 have h0:=ht.cell1;clear ht;go_enter Tryz.func17,Tryz.ntmps17;go_wp2;go_ret;exact⟨rfl,rfl⟩
set_option maxRecDepth 20000 in
theorem TRoot_calls(tb hb nb:Nat)(c:Value)(d:List Nat)(hd:d.length=32)(t:TypeId)(w:World)(ht:HasTr tb hb (some ⟨nb,0,none⟩) w)(hn:w.heap[nb]?=some (.cells (zCF c d) t (0,0))) :
  Calls Tryz.prog 21 #[.pointer (some ⟨tb,0,none⟩)] w fun e w'=>e=.returned (.agg (kv d))∧Below w.heap.size w w':=by
 have HT:=Lib.hid ht;have HD:=Lib.hid hd;have HN:=Lib.hid (fun wx h=>zGR c d hd (.pointer (some ⟨hb,0,none⟩)) nb t wx h);have HW:=Lib.hid hn;clear ht hn hd;generalize zCF c d=nc at *;have st:=St.init w;go_enter Tryz.func21,Tryz.ntmps21
 go_wp2_with (first
  |(refine zAE st rfl 38 rfl _ zCG ?_;intro b2 w1 st1;clear st))
 refine zBH 9 st1 zBL (by kernel_rfl) ?_;intro I hI hI';have q:∀wx,I wx→wx.cell? ⟨tb,0,none⟩=some (.pointer (some ⟨hb,0,none⟩))∧wx.cell? ⟨tb,1,none⟩=some (.pointer (some ⟨nb,0,none⟩)):=fun wx hw=>by
  have h:=HT.out.call (hI wx hw).below;exact⟨h.cell0,h.cell1⟩
 simp only[List.take_succ_cons,List.take_zero,List.drop_succ_cons,List.drop_zero]
 iterate 8
  (refine Inv.wpInv_step (fun K hK=>?_);go_simp;apply zAL;· (intro wx hw;have q1:=q wx hw;go_simp;(try go_ints);(try go_simp);(try (rw[if_pos (by omega)]));(try go_simp);(first | done | rfl))
   refine hK _ ?_;clear hK K)
 (refine Inv.wpInv_step (fun K hK=>?_);go_simp;refine zDF hI hI' 43 #[.pointer (some ⟨hb,0,none⟩),.pointer (some ⟨nb,0,none⟩)] ?_ (fun wx stx=>(HN.out wx ((stx.below.block nb (zAG HW.out)).trans HW.out))) ?_;· (intro wx hw;go_simp)
  refine hK _ ?_;clear hK K)
 refine Inv.wpInv_nil ?_;clear q hI hI' st1;intro w6 st6
 go_wp2_with (first
  |(refine zAA st6 rfl 38 _ _ rfl 0 b2 rfl (.agg (kv d)) rfl _ _ rfl (zCA HD.out) (by show (kv d).size=_;rw[zAF,HD.out,zAF];rfl) (zBJ _) _ rfl ?_;intro w7 st7;clear st6))
 exact zBX rfl b2 _ _ _ rfl (st7.at (i:=0) rfl) zEE rfl (zCA HD.out) rfl ⟨rfl,st7.below⟩
end
section
open Go Go.RowKit
def zCT(cs:Array Value)(off:Nat)(v:Value):Array Value:=(cs.toList.take off++(v.cells.toList++cs.toList.drop (off+v.cells.size))).toArray
theorem zEB(pre mid post:List Value)(v:Value)(off:Nat)(hp:pre.length=off)(hm:mid.length=v.cells.size):zCT (pre++(mid++post)).toArray off v=(pre++(v.cells.toList++post)).toArray:=by
 subst hp;unfold zCT;rw[List.toList_toArray,List.take_left' rfl,←List.append_assoc pre mid post,List.drop_left' (by simp[hm])]
theorem zHM(pre mid post:List Value)(off n:Nat)(hp:pre.length=off)(hm:mid.length=n):(pre++(mid++post)).toArray.extract off (off+n)=mid.toArray:=by
 subst hp hm;apply Array.ext';simp
theorem zEK{place:Nat→Option (Nat×Nat)}{cells:Array Value}{i off:Nat}{v:Value}{rest:List (Nat×Value)}(hp:place i=some (off,v.cells.size))(h:off+v.cells.size≤cells.size) :
  Instr.fill place cells ((i,v)::rest)=Instr.fill place (zCT cells off v) rest:=by
 simp only[Instr.fill,hp];rw[if_neg (by simp;omega),fold_set _ _ _ (by omega)];rfl
def shapeZ(P:Program)(t:TypeId):Option (Array Value×List (Nat×Nat)) :=
 match P.info? t,P.underlying t with
 |some it,some (.struct fields) =>
  match it.zero,fields.toList.mapM (fun f=>(P.info? f.type).map fun i=>(f.offset,i.size)) with
  |some z,some places=>some (z.cells,places)
  |_,_=>none
 |_,_=>none
theorem built_fill{P:Program}{t:TypeId}{z:Array Value}{places:List (Nat×Nat)}(h:shapeZ P t=some (z,places))(ps:List (Nat×Value)):P.built t ps=Instr.fill (places.toArray[·]?) z ps:=by
 unfold shapeZ at h;unfold Program.built
 split at h
 ·rename_i it fields h1 h2
  split at h
  ·rename_i z' places' h3 h4
   simp only[Option.some.injEq,Prod.mk.injEq] at h;obtain⟨rfl,rfl⟩:=h;simp only[h1,h2,h3,h4]
  ·cases h
 ·cases h
section
variable {P:Program} {ops:Array Oper} {rest:List Oper} {o:Oper} {a:Act} {w w0:World} {Q:Exit→Act→World→Prop} {B:Nat} {L:List (Nat×Array Value×TypeId)}
theorem run_storeVar_part(w:World)(g off:Nat)(t ty:TypeId)(old:Array Value)(v:Value)(hg:w.heap[g]?=some (.cells old t (0,0)))
  (hi:(P.info? ty).map (·.size)=some v.cells.size) (ho:off+v.cells.size≤old.size) (h1:∀u∈v.cells.toList,u.oneCell'=true) :
  (storeVar ty ⟨g,off,none⟩ v).run P w=.ok () (w.setRow g (zCT old off v)):=by
 cases hq:P.info? ty with
 |none=>simp[hq] at hi
 |some i =>
  have hs:i.size=v.cells.size:=by simpa[hq] using hi
  have hst:=run_storeCells_at P g off t v.cells.toList 0 old w hg (by simp;omega) h1;have e:(old.toList.take (off+0)++v.cells.toList++old.toList.drop (off+0+v.cells.toList.length)).toArray=zCT old off v:=by
   unfold zCT;simp
  rw[e] at hst;simp[storeVar,Sem.run_bind,sizeOf,typeInfo,hq,hs,hst]
theorem zAZ(st:St B w0 L w)(hgd:o.guard=none)(ty:TypeId)(x y:Operand)(ho:o.op=.store ty x y)
  (i:Nat) (b off:Nat) (hx:a.eval x=.pointer (some ⟨b,off,none⟩)) (v:Value) (hy:a.eval y=v) (old:Array Value) (t:TypeId) (hL:L[i]?=some (b,old,t))
  (hi:(P.info? ty).map (·.size)=some v.cells.size) (hs:off+v.cells.size≤old.size) (h1:∀u∈v.cells.toList,u.oneCell'=true)
  (cs':Array Value) (hcs:zCT old off v=cs') (L':List (Nat×Array Value×TypeId)) (hL':L.set i (b,cs',t)=L')
  (h:∀w1,St B w0 L' w1→w.grownBy w1 (some b)→wpList P ops Q rest (a.put o.dst undef) w1):wpList P ops Q (o::rest) a w:=by
 refine wpList_plain hgd fun K hK=>?_
 subst hcs;unfold Oper.wp execOp;simp only[ho,hx,hy,Instr.storeAt,Instr.sureAddr,Sem.run_bind,Sem.run_pure,Result.andThen_ok,run_storeVar_part w b off t ty old v (st.at hL) hi hs h1,Oper.upon];exact hK _ _ (h _ (st.put hL _ hL') (zHX w b _))
theorem wpList_storePX(hgd:o.guard=none)(ty:TypeId)(x y:Operand)(ho:o.op=.store ty x y)
  (b off:Nat) (hx:a.eval x=.pointer (some ⟨b,off,none⟩)) (v:Value) (hy:a.eval y=v) (old:Array Value) (t:TypeId) (hrow:w.heap[b]?=some (.cells old t (0,0)))
  (hi:(P.info? ty).map (·.size)=some v.cells.size) (hs:off+v.cells.size≤old.size) (h1:∀u∈v.cells.toList,u.oneCell'=true)
  (cs':Array Value) (hcs:zCT old off v=cs')
  (h:∀w1,w.grownBy w1 (some b)→w1.heap[b]?=some (.cells cs' t (0,0))→wpList P ops Q rest (a.put o.dst undef) w1):wpList P ops Q (o::rest) a w :=
 zAZ (B:=0) (w0:=w) (L:=[(b,old,t)]) ⟨Below.refl 0 w,Nat.zero_le _,fun p hp=>by simp at hp;subst hp;exact⟨Nat.zero_le _,hrow⟩,by simp⟩ hgd ty x y ho 0 b off hx v hy old t rfl hi hs h1 cs' hcs _ rfl
  fun w1 st hg=>h w1 hg (st.at (i:=0) rfl)
end
def zAB(kd dp:Int)(lf bm:List Nat)(s:Value):Array Value:=(.int .i64 kd::.int .i64 dp::(zAJ lf++(zAJ bm++[s]))).toArray
section
variable {kd dp:Int} {lf bm:List Nat} {s:Value}
theorem zAO(hl:lf.length=64)(hb:bm.length=32):(zAB kd dp lf bm s).size=99:=by simp[zAB,zAI,hl,hb]
theorem zEC:(zAB kd dp lf bm s)[0]?=some (.int .i64 kd):=rfl
theorem zFG:(zAB kd dp lf bm s)[1]?=some (.int .i64 dp):=rfl
theorem zCX(hl:lf.length=64)(hb:bm.length=32):(zAB kd dp lf bm s)[98]?=some s:=by
 have h1:(zAJ lf).length=64:=by rw[zAI,hl]
 have h2:(zAJ bm).length=32:=by rw[zAI,hb]
 unfold zAB;rw[List.getElem?_toArray]
 show (zAJ lf++(zAJ bm++[s]))[96]?=some s
 rw[List.getElem?_append_right (by omega),List.getElem?_append_right (by omega),h1,h2];rfl
theorem zDI(hs:s.oneCell'=true):∀u∈(zAB kd dp lf bm s).toList,u.oneCell'=true:=by
 intro u hu;unfold zAB at hu;rw[List.toList_toArray] at hu;simp only[List.mem_cons,List.mem_append,List.not_mem_nil,or_false] at hu;rcases hu with rfl | rfl | hu | hu | rfl
 ·rfl
 ·rfl
 ·exact zBJ lf u (by rw[zCJ];exact hu)
 ·exact zBJ bm u (by rw[zCJ];exact hu)
 ·exact hs
theorem zJB(hl:lf.length=64):(zAB kd dp lf bm s).extract 2 (2+64)=kv lf:=by
 rw[←zBK];exact zHM [.int .i64 kd,.int .i64 dp] (zAJ lf) (zAJ bm++[s]) 2 64 rfl (by rw[zAI,hl])
theorem zFQ(hl:lf.length=64):(zAB kd dp lf bm s).extract 2 (2+32)=kv (lf.take 32):=by
 rw[←zBK];have h:=zHM [.int .i64 kd,.int .i64 dp] (zAJ (lf.take 32)) (zAJ (lf.drop 32)++(zAJ bm++[s])) 2 32 rfl (by rw[zAI,List.length_take];omega);rw[←List.append_assoc (zAJ (lf.take 32)),←zCB,List.take_append_drop] at h;exact h
theorem proofCells_leafVal(hl:lf.length=64):(zAB kd dp lf bm s).extract 34 (34+32)=kv (lf.drop 32):=by
 rw[←zBK];have h:=zHM (.int .i64 kd::.int .i64 dp::zAJ (lf.take 32)) (zAJ (lf.drop 32)) (zAJ bm++[s]) 34 32 (by simp[zAI];omega) (by rw[zAI,List.length_drop];omega);simp only[List.cons_append] at h;rw[←List.append_assoc (zAJ (lf.take 32)),←zCB,List.take_append_drop] at h;exact h
theorem proofCells_bm(hl:lf.length=64)(hb:bm.length=32):(zAB kd dp lf bm s).extract 66 (66+32)=kv bm:=by
 rw[←zBK];exact zHM (.int .i64 kd::.int .i64 dp::zAJ lf) (zAJ bm) [s] 66 32 (by simp[zAI,hl]) (by rw[zAI,hb])
theorem zHC(x:Int):zCT (zAB kd dp lf bm s) 0 (.int .i64 x)=zAB x dp lf bm s :=
 zEB [] [.int .i64 kd] (.int .i64 dp::(zAJ lf++(zAJ bm++[s]))) (.int .i64 x) 0 rfl rfl
theorem zJA(x:Int):zCT (zAB kd dp lf bm s) 1 (.int .i64 x)=zAB kd x lf bm s :=
 zEB [.int .i64 kd] [.int .i64 dp] (zAJ lf++(zAJ bm++[s])) (.int .i64 x) 1 rfl rfl
theorem proofCells_putLeaf(hl:lf.length=64)(l:List Nat)(h:l.length=64):zCT (zAB kd dp lf bm s) 2 (.agg (kv l))=zAB kd dp l bm s:=by
 have e:=zEB [.int .i64 kd,.int .i64 dp] (zAJ lf) (zAJ bm++[s]) (.agg (kv l)) 2 rfl (by show _=(kv l).size;rw[zAI,zAF,hl,h]);simp only[Value.cells,zCJ] at e;exact e
theorem zIH(hl:lf.length=64)(hb:bm.length=32)(l:List Nat)(h:l.length=32):zCT (zAB kd dp lf bm s) 66 (.agg (kv l))=zAB kd dp lf l s:=by
 have e:=zEB (.int .i64 kd::.int .i64 dp::zAJ lf) (zAJ bm) [s] (.agg (kv l)) 66 (by simp[zAI,hl]) (by show _=(kv l).size;rw[zAI,zAF,hb,h]);simp only[Value.cells,zCJ] at e;exact e
theorem proofCells_putKey(hl:lf.length=64)(k:List Nat)(h:k.length=32):zCT (zAB kd dp lf bm s) 2 (.agg (kv k))=zAB kd dp (k++lf.drop 32) bm s:=by
 have e:=zEB [.int .i64 kd,.int .i64 dp] (zAJ (lf.take 32)) (zAJ (lf.drop 32)++(zAJ bm++[s])) (.agg (kv k)) 2 rfl (by show _=(kv k).size;rw[zAI,zAF,h];simp;omega);simp only[Value.cells,zCJ] at e;rw[←List.append_assoc (zAJ (lf.take 32)),←zCB,List.take_append_drop,←List.append_assoc (zAJ k),←zCB] at e;exact e
theorem proofCells_putVal(hl:lf.length=64)(k:List Nat)(h:k.length=32):zCT (zAB kd dp lf bm s) 34 (.agg (kv k))=zAB kd dp (lf.take 32++k) bm s:=by
 have e:=zEB (.int .i64 kd::.int .i64 dp::zAJ (lf.take 32)) (zAJ (lf.drop 32)) (zAJ bm++[s]) (.agg (kv k)) 34 (by simp[zAI];omega) (by show _=(kv k).size;rw[zAI,zAF,h];simp;omega);simp only[Value.cells,zCJ,List.cons_append] at e;rw[←List.append_assoc (zAJ (lf.take 32)),←zCB,List.take_append_drop,←List.append_assoc (zAJ (lf.take 32)) (zAJ k),←zCB] at e;exact e
theorem proofCells_putSib(hl:lf.length=64)(hb:bm.length=32)(x:Value)(hx:x.cells=#[x]):zCT (zAB kd dp lf bm s) 98 x=zAB kd dp lf bm x:=by
 have e:=zEB (.int .i64 kd::.int .i64 dp::(zAJ lf++zAJ bm)) [s] [] x 98 (by simp[zAI,hl,hb]) (by rw[hx];rfl);simp only[hx,List.append_nil,List.cons_append,List.append_assoc] at e;exact e
end
theorem zCZ:(List.replicate 64 0:List Nat).length=64:=List.length_replicate
theorem shapeProof:shapeZ Tryz.prog 43=some (zAB 0 0 (List.replicate 64 0) zAH (.slice none 0 0),[(0,1),(1,1),(2,64),(66,32),(98,1)]):=by kernel_rfl
theorem zeroProof:(Tryz.prog.info? 43).bind (·.zero)=some (.agg (zAB 0 0 (List.replicate 64 0) zAH (.slice none 0 0))):=by kernel_rfl
theorem sizeProof0:(Tryz.prog.info? 43).map (·.size)=some 99:=by kernel_rfl
theorem zAQ{c:Array Value}(h:c.size=99):(Tryz.prog.info? 43).map (·.size)=some c.size:=by rw[h];exact sizeProof0
theorem zGE:∃d,Tryz.prog.underlying 43=some d∧zGJ d=true:=by
 have h:(Tryz.prog.underlying 43).map zGJ=some true:=by kernel_rfl
 cases hq:Tryz.prog.underlying 43 with
 |none=>rw[hq] at h;cases h
 |some d=>rw[hq] at h;exact⟨d,rfl,Option.some.inj h⟩
theorem builtProof3(kd dp:Int)(lf:List Nat)(hl:lf.length=64):Tryz.prog.built 43 [(0,.int .i64 kd),(1,.int .i64 dp),(2,.agg (kv lf))]=some (zAB kd dp lf zAH (.slice none 0 0)):=by
 have hk:(kv lf).size=64:=by rw[zAF,hl]
 rw[built_fill shapeProof,zEK (off:=0) rfl (by rw[zAO zCZ rfl];simp[Value.cells]),zHC,zEK (off:=1) rfl (by rw[zAO zCZ rfl];simp[Value.cells]),zJA,
  zEK (off:=2) (by simp[Value.cells,hk]) (by rw[zAO zCZ rfl];simp[Value.cells,hk]),proofCells_putLeaf zCZ _ hl]
 rfl
theorem builtProofB(kd dp:Int)(bm:List Nat)(hb:bm.length=32):Tryz.prog.built 43 [(0,.int .i64 kd),(1,.int .i64 dp),(3,.agg (kv bm))]=some (zAB kd dp (List.replicate 64 0) bm (.slice none 0 0)):=by
 have hk:(kv bm).size=32:=by rw[zAF,hb]
 rw[built_fill shapeProof,zEK (off:=0) rfl (by rw[zAO zCZ rfl];simp[Value.cells]),zHC,zEK (off:=1) rfl (by rw[zAO zCZ rfl];simp[Value.cells]),zJA,
  zEK (off:=66) (by simp[Value.cells,hk]) (by rw[zAO zCZ rfl];simp[Value.cells,hk]),zIH zCZ rfl _ hb]
 rfl
theorem builtProof0:Tryz.prog.built 43 []=some (zAB 0 0 (List.replicate 64 0) zAH (.slice none 0 0)):=by
 rw[built_fill shapeProof];rfl
theorem eqlDig(a b:List Nat)(la:a.length=32)(lb:b.length=32)(w:World) :
  (Op.equalIn 10000 38 (.agg (kv a)) (.agg (kv b))).run Tryz.prog w=.ok (decide (a=b)) w :=
 zET w 9998 38 5 32 zEE byteT zGN a b la lb
theorem zDY(l:List Nat)(off n:Nat)(_:off+n≤l.length):(kv l).extract off (off+n)=kv ((l.drop off).take n):=by
 rw[←zBK,←zBK];apply Array.ext';simp[zAJ,List.map_take,List.map_drop]
theorem run_part_agg{P:Program}(w:World){t:TypeId}{d:TypeDesc}(hu:P.underlying t=some d)(hd:zGJ d=true){n:Nat}(hi:(P.info? t).map (·.size)=some n)(cs:Array Value)(off:Nat) :
  (part t cs off).run P w=.ok (.agg (cs.extract off (off+n))) w:=by
 cases hq:P.info? t with
 |none=>simp[hq] at hi
 |some i =>
  have hs:i.size=n:=by simpa[hq] using hi
  have hagg:(isAgg t).run P w=.ok true w:=by
   unfold isAgg;rw[Sem.run_bind,run_underlying hu w]
   cases d<;>simp_all [zGJ]
  simp[part,Sem.run_bind,hagg,sizeOf,typeInfo,hq,hs]
theorem fieldsLeaf:((Tryz.prog.fieldsOf 40).toList.map fun f=>(f.name == "_",f.type,f.offset))=[(false,37,0),(false,38,32)]:=by kernel_rfl
theorem descLeaf:Tryz.prog.underlying 40=some (.struct (Tryz.prog.fieldsOf 40)):=by kernel_rfl
theorem stoodLeaf:Tryz.prog.stoodInHeld 40=false:=by kernel_rfl
theorem guardLeaf:Tryz.prog.eqGuardType Tryz.prog.depth 40=false:=by kernel_rfl
theorem guardDig:Tryz.prog.eqGuardType Tryz.prog.depth 38=false:=by kernel_rfl
theorem eqFields_two{P:Program}(w:World)(d:Nat)(xs ys:Array Value){fs:List Field}{t1 t2:TypeId}{o1 o2:Nat}(h:(fs.map fun f=>(f.name == "_",f.type,f.offset))=[(false,t1,o1),(false,t2,o2)]){x1 x2 y1 y2:Value}{b1 b2:Bool}
  (p1:(part t1 xs o1).run P w=.ok x1 w) (q1:(part t1 ys o1).run P w=.ok y1 w) (p2:(part t2 xs o2).run P w=.ok x2 w) (q2:(part t2 ys o2).run P w=.ok y2 w)
  (e1:(Op.equalIn d t1 x1 y1).run P w=.ok b1 w) (e2:(Op.equalIn d t2 x2 y2).run P w=.ok b2 w):(Op.eqFields d xs ys fs).run P w=.ok (b1&&b2) w:=by
 rcases fs with _ | ⟨f,_ | ⟨g,_ | ⟨_,_⟩⟩⟩
 ·simp at h
 ·simp at h
 ·simp only[List.map_cons,List.map_nil,List.cons.injEq,Prod.mk.injEq,beq_eq_false_iff_ne,ne_eq,and_true] at h
  obtain⟨⟨n1,rfl,rfl⟩,n2,rfl,rfl⟩:=h;simp only[Op.eqFields,n1,n2,ne_eq,not_false_eq_true,if_true,Sem.run_bind,p1,q1,e1,Result.andThen_ok]
  cases b1
  ·simp
  ·simp[Sem.run_bind,p2,q2,e2]
   cases b2<;>simp
 ·simp at h
theorem eqlLeaf(a b:List Nat)(la:a.length=64)(lb:b.length=64)(w:World) :
  (Op.equalIn 10000 40 (.agg (kv a)) (.agg (kv b))).run Tryz.prog w=.ok (decide (a=b)) w:=by
 rw[run_equalIn_struct w 9999 40 (kv a) (kv b) descLeaf stoodLeaf];obtain⟨d1,hd1,hg1⟩:=zBN;obtain⟨d2,hd2,hg2⟩:=zFZ;have ex:∀(l:List Nat)(off:Nat),l.length=64→off+32≤64→((l.drop off).take 32).length=32:=fun l off h h2=>by simp;omega
 rw[eqFields_two w 9999 (kv a) (kv b) fieldsLeaf (run_part_agg w hd1 hg1 zBC (kv a) 0) (run_part_agg w hd1 hg1 zBC (kv b) 0) (run_part_agg w hd2 hg2 zBV (kv a) 32) (run_part_agg w hd2 hg2 zBV (kv b) 32)
  (by rw[zDY a 0 32 (by omega),zDY b 0 32 (by omega)];exact zET w 9997 37 5 32 zBF byteT zGN _ _ (ex a 0 la (by omega)) (ex b 0 lb (by omega)))
  (by rw[zDY a 32 32 (by omega),zDY b 32 32 (by omega)];exact zET w 9997 38 5 32 zEE byteT zGN _ _ (ex a 32 la (by omega)) (ex b 32 lb (by omega)))]
 have hiff:(decide ((a.drop 0).take 32=(b.drop 0).take 32)&&decide ((a.drop 32).take 32=(b.drop 32).take 32))=decide (a=b):=by
  rw[←Bool.decide_and];apply decide_eq_decide.2;constructor
  ·rintro⟨h1,h2⟩
   rw[←List.take_append_drop 32 a,←List.take_append_drop 32 b];rw[List.drop_zero,List.drop_zero] at h1;rw[List.take_of_length_le (by simp;omega),List.take_of_length_le (by simp;omega)] at h2;rw[h1,h2]
  ·rintro rfl
   exact⟨rfl,rfl⟩
 rw[hiff]
end
section
set_option maxHeartbeats 1000000
open Go Go.RowKit
theorem zDH:(Tryz.prog.info? 36).map (·.size)=some 32:=by kernel_rfl
theorem aggBmE:∃d,Tryz.prog.underlying 105=some d∧zGJ d=true:=by
 have h:(Tryz.prog.underlying 105).map zGJ=some true:=by kernel_rfl
 cases hq:Tryz.prog.underlying 105 with
 |none=>rw[hq] at h;cases h
 |some d=>rw[hq] at h;exact⟨d,rfl,Option.some.inj h⟩
set_option maxRecDepth 20000 in
theorem Prove_calls(hp:Value)(kk:List Nat)(hkk:kk.length=32)(k vd:List Nat)(s:Value)(hs:s.oneCell'=true)(hk:k.length=32)(hv:vd.length=32)(nb:Nat)(w:World)(hn:w.cell? ⟨nb,0,none⟩=some (zED k vd s)) :
  Calls Tryz.prog 15 #[hp,.pointer (some ⟨nb,0,none⟩),.agg (kv kk)] w fun e w'=>e=.returned (.agg (zAB 1 0 (k++vd) zAH (.slice none 0 0)))∧Below w.heap.size w w':=by
 have HN:=Lib.hid hn;have Hlt:=Lib.hid (zAS hn);have Hkk:=Lib.hid hkk;have HK:=Lib.hid (fun wx (h:wx.cell? ⟨nb,0,none⟩=some (zED k vd s))=>zGK _ nb wx h);have HL:=Lib.hid (fun wx h=>LeafMLeaf_calls k vd s hs hk hv nb wx h);have H64:Hid ((k++vd).length=64):=by unfold Hid;simp[hk,hv]
 have HLoc:=Lib.hid (fun wx (h:wx.cell? ⟨nb,0,none⟩=some (zED k vd s))=>Locate_calls (some ⟨nb,0,none⟩) kk hkk 1 (by decide) wx fun wy hb=>zGK _ nb wy ((hb.cell (zAS h)).trans h));have HSib:=Lib.hid (fun wx (h:wx.cell? ⟨nb,0,none⟩=some (zED k vd s))=>Siblings_calls (some ⟨nb,0,none⟩) kk hkk 1 (by decide) wx fun wy hb=>zGK _ nb wy ((hb.cell (zAS h)).trans h));have HB:=Lib.hid (builtProof3 1 0 (k++vd) H64.out);have HS1:Hid ((zAB 1 0 (k++vd) zAH (.slice none 0 0)).size=99):=zAO H64.out rfl;have HS0:Hid ((zAB 0 0 (List.replicate 64 0) zAH (.slice none 0 0)).size=99):=zAO zCZ rfl;have H1:Hid (∀u∈(zAB 1 0 (k++vd) zAH (.slice none 0 0)).toList,u.oneCell'=true):=zDI rfl;have HP:Hid (zCT (zAB 1 0 (k++vd) zAH (.slice none 0 0)) 66 (.agg (kv zAH))=zAB 1 0 (k++vd) zAH (.slice none 0 0)):=zIH H64.out rfl _ rfl;have HZ:=Lib.hid zeroProof;clear hn hkk hs hk hv;generalize zED k vd s=lfv at *;generalize k++vd=lf at *;generalize zAB 1 0 lf zAH (.slice none 0 0)=pc at *
 generalize zAB 0 0 (List.replicate 64 0) zAH (.slice none 0 0)=zc at *;obtain⟨dP,hdP,haP⟩:=zGE;have st:=St.init w;go_enter Tryz.func15,Tryz.ntmps15
 go_wp2_with (first
  |(refine zAD st rfl 37 _ rfl _ rfl ?_;intro b5 w1 st1;clear st)
  |(refine zAE st1 rfl 43 rfl _ HZ.out ?_;intro b6 w2 st2;clear st1)
  |(refine zAC rfl 37 _ rfl b5 rfl _ zBF rfl _ _ (st2.at (i:=1) rfl) (zAX Hkk.out) ?_)
  |(go_at_call 38;refine(HLoc.out _ ((st2.below.cell Hlt.out).trans HN.out)).mono ?_;rintro e w3 ⟨rfl,hbel⟩;have st3:=St.call st2 hbel;clear hbel st2)
  |(go_at_call 39;refine(HK.out _ ((st3.below.cell Hlt.out).trans HN.out)).mono ?_;rintro e w4 ⟨rfl,rfl⟩)
  |(go_at_call 40;refine(HL.out _ ((st3.below.cell Hlt.out).trans HN.out)).mono ?_;rintro e w4 ⟨rfl,hbel⟩;have st4:=St.call st3 hbel;clear hbel st3)
  |(refine zAM rfl 43 _ rfl [(0,.int .i64 1),(1,.int .i64 0),(2,.agg (kv lf))] ?_ _ HB.out ?_;(·(simp[Act.eval];done)))
  |(refine zAE st4 rfl 43 rfl _ HZ.out ?_;intro b9 w5 st5;clear st4)
  |(refine zAA st5 rfl 43 _ _ rfl 0 b9 rfl (.agg pc) rfl _ _ rfl (zAQ HS1.out) (by show pc.size=_;rw[HS1.out,HS0.out]) H1.out _ rfl ?_;intro w6 st6;clear st5)
  |(refine zAE st6 rfl 105 rfl _ zeroBm ?_;intro b10 w7 st7;clear st6)
  |(refine zAC rfl 37 _ rfl b5 rfl _ zBF rfl _ _ (st7.at (i:=3) rfl) (zAX Hkk.out) ?_)
  |(go_at_call 41;refine(HSib.out _ ((st7.below.cell Hlt.out).trans HN.out)).mono ?_;rintro e w8 ⟨rfl,hbel⟩;have st8:=St.call st7 hbel;clear hbel st7))
 have st9:St w.heap.size w [(b10,kv zAH,105),(b9,pc,43),(b6,zc,43),(b5,kv kk,37)] w8:=st8;clear st8
 go_loopw [29] (fun i wr=>i=.int .i64 0∧St w.heap.size w [(b10,kv zAH,105),(b9,pc,43),(b6,zc,43),(b5,kv kk,37)] wr) (fun _ _=>0)
 case atStart=>exact⟨rfl,st9⟩
 case round =>
  obtain⟨rfl,st10⟩:=hrel;clear st9
  go_wp2_with (first
   |(refine zAC rfl 105 _ rfl b10 rfl _ aggBmE.choose_spec.1 aggBmE.choose_spec.2 _ _ (st10.at (i:=0) rfl) sizeBm0 ?_)
   |(refine zAZ st10 rfl 36 _ _ rfl 1 b9 66 rfl (.agg (kv zAH)) rfl _ _ rfl zDH (by rw[HS1.out];decide) (zBJ _) _ HP.out _ rfl ?_;intro w11 st11 _;clear st10)
   |(refine zAC rfl 43 _ rfl b9 rfl _ hdP haP _ _ (st11.at (i:=1) rfl) (zAQ HS1.out) ?_)
   |(refine zAA st11 rfl 43 _ _ rfl 2 b6 rfl (.agg pc) rfl _ _ rfl (zAQ HS1.out) (by show pc.size=_;rw[HS1.out,HS0.out]) H1.out _ rfl ?_;intro w12 st12;clear st11))
  exact zBX rfl b6 _ _ _ rfl (st12.at (i:=2) rfl) hdP haP (zAQ HS1.out) rfl ⟨rfl,st12.below⟩
end
section
set_option maxHeartbeats 1000000
open Go Go.RowKit
attribute [local irreducible] Inv.wpInv Mix.wpUp
set_option maxRecDepth 20000 in
theorem rule1_calls(kd dp:Int)(lf bm bm':List Nat)(s:Value)(w:World) :
  Calls Tryz.prog 106 #[.agg (zAB kd dp lf bm s),.agg (kv bm')] w fun e w'=>e=.returned (.bool (kd==0||kd==1))∧Below w.heap.size w w':=by
 have H0:Hid ((zAB kd dp lf bm s)[0]?=some (.int .i64 kd)):=zEC;generalize zAB kd dp lf bm s=pc at *;generalize kv bm'=kb at *;have st:=St.init w;go_enter Tryz.func106,Tryz.ntmps106
 go_wp2_with (first
  |(refine zAD st rfl 43 _ rfl pc rfl ?_;intro b2 w1 st1;clear st)
  |(refine zAD st1 rfl 105 _ rfl kb rfl ?_;intro b3 w2 st2;clear st1;have hc:=(st2.cell (i:=1) rfl 0).trans H0.out))
 all_goals (go_ret;refine⟨?_,st2.below⟩;first | rfl | (simp;done) | (simp;omega) | (simp[*];done))
set_option maxRecDepth 20000 in
theorem rule2_calls(kd dp:Int)(lf bm bm':List Nat)(s:Value)(w:World) :
  Calls Tryz.prog 107 #[.agg (zAB kd dp lf bm s),.agg (kv bm')] w fun e w'=>e=.returned (.bool (decide (0≤dp)&&decide (dp≤256)))∧Below w.heap.size w w':=by
 have H0:Hid ((zAB kd dp lf bm s)[1]?=some (.int .i64 dp)):=zFG;generalize zAB kd dp lf bm s=pc at *;generalize kv bm'=kb at *;have st:=St.init w;go_enter Tryz.func107,Tryz.ntmps107
 go_wp2_with (first
  |(refine zAD st rfl 43 _ rfl pc rfl ?_;intro b2 w1 st1;clear st)
  |(refine zAD st1 rfl 105 _ rfl kb rfl ?_;intro b3 w2 st2;clear st1;have hc:=(st2.cell (i:=1) rfl 1).trans H0.out))
 all_goals (go_ret;refine⟨?_,st2.below⟩;first | rfl | (simp;done) | (simp;omega) | (simp[*];done))
theorem builtLeaf0:Tryz.prog.built 40 []=some (kv (List.replicate 64 0)):=by kernel_rfl
set_option maxRecDepth 20000 in
theorem rule3_calls(kd dp:Int)(lf bm bm':List Nat)(s:Value)(hl:lf.length=64)(hb:bm.length=32)(w:World) :
  Calls Tryz.prog 108 #[.agg (zAB kd dp lf bm s),.agg (kv bm')] w fun e w'=>e=.returned (.bool (kd==1||decide (lf=List.replicate 64 0)))∧Below w.heap.size w w':=by
 have H0:Hid ((zAB kd dp lf bm s)[0]?=some (.int .i64 kd)):=zEC;have HS:Hid ((zAB kd dp lf bm s).size=99):=zAO hl hb;have HE:=Lib.hid (zJB (kd:=kd) (dp:=dp) (bm:=bm) (s:=s) hl);have HB:=Lib.hid builtLeaf0;have hq:=eqlLeaf lf (List.replicate 64 0) hl zCZ;have hg:=guardLeaf;generalize zAB kd dp lf bm s=pc at *;generalize kv bm'=kb at *;generalize kv lf=lv at *;generalize kv (List.replicate 64 0)=zl at *;have st:=St.init w
 cases hk1:(kd==1)
 ·go_enter Tryz.func108,Tryz.ntmps108
  go_wp2_with (first
   |(refine zAD st rfl 43 _ rfl pc rfl ?_;intro b2 w1 st1;clear st)
   |(refine zAD st1 rfl 105 _ rfl kb rfl ?_;intro b3 w2 st2;clear st1;have hc:=(st2.cell (i:=1) rfl 0).trans H0.out)
   |(refine zAP rfl 40 _ rfl b2 2 64 rfl aggLeaf _ _ _ (st2.at (i:=1) rfl) sizeLeaf0 (by rw[HS.out];simp) _ HE.out ?_)
   |(refine zAM rfl 40 _ rfl [] ?_ _ HB.out ?_;(·(simp[Act.eval];done))))
  go_ret;refine⟨?_,st2.below⟩
  first | rfl | (simp;done) | (simp;omega) | (simp[*];done)
 ·go_enter Tryz.func108,Tryz.ntmps108
  go_wp2_with (first
   |(refine zAD st rfl 43 _ rfl pc rfl ?_;intro b2 w1 st1;clear st)
   |(refine zAD st1 rfl 105 _ rfl kb rfl ?_;intro b3 w2 st2;clear st1;have hc:=(st2.cell (i:=1) rfl 0).trans H0.out))
  go_ret;refine⟨?_,st2.below⟩
  first | rfl | (simp;done) | (simp;omega) | (simp[*];done)
set_option maxRecDepth 20000 in
theorem rule4_calls(kd dp:Int)(lf bm bm':List Nat)(s:Value)(hk:Key bm')(h0:0≤dp)(h1:dp≤256)(w:World) :
  Calls Tryz.prog 109 #[.agg (zAB kd dp lf bm s),.agg (kv bm')] w fun e w'=>e=.returned (.bool (lastI bm'==dp - 1))∧Below w.heap.size w w':=by
 have H0:Hid ((zAB kd dp lf bm s)[1]?=some (.int .i64 dp)):=zFG;have Hk:=Lib.hid hk.len;have HL:=Lib.hid (Last_calls bm' hk);clear hk;generalize zAB kd dp lf bm s=pc at *;have st:=St.init w;go_enter Tryz.func109,Tryz.ntmps109
 go_wp2_with (first
  |(refine zAD st rfl 43 _ rfl pc rfl ?_;intro b2 w1 st1;clear st)
  |(refine zAD st1 rfl 105 _ rfl (kv bm') rfl ?_;intro b3 w2 st2;clear st1))
 refine zBH 6 st2 zBL (by kernel_rfl) ?_;intro I hI hI';have q:∀wx,I wx→wx.cell? ⟨b2,1,none⟩=some (.int .i64 dp):=fun wx hw=>((hI wx hw).cell (i:=1) rfl 1).trans H0.out
 simp only[List.take_succ_cons,List.take_zero,List.drop_succ_cons,List.drop_zero]
 (refine Inv.wpInv_step (fun K hK=>?_);go_simp;refine zDP 105 _ rfl b3 rfl _ aggBm rfl _ _ (fun wx hw=>(hI wx hw).at (i:=0) rfl) (zEO Hk.out) ?_
  refine hK _ ?_;clear hK K)
 (refine Inv.wpInv_step (fun K hK=>?_);go_simp;refine zDF hI hI' 110 #[.agg (kv bm')] ?_ (fun wx stx=>HL.out wx) ?_;· (intro wx hw;go_simp)
  refine hK _ ?_;clear hK K)
 iterate 4
  (refine Inv.wpInv_step (fun K hK=>?_);go_simp;apply zAL;· (intro wx hw;have q1:=q wx hw;go_simp;(try go_ints);(try go_simp);(try (rw[if_pos (by omega)]));(try go_simp);(first | done | rfl))
   refine hK _ ?_;clear hK K)
 refine Inv.wpInv_nil ?_;clear q hI hI' st2;intro w6 st6;go_wp2;go_ret;exact⟨rfl,st6.below⟩
set_option maxRecDepth 20000 in
theorem rule5_calls(kd dp:Int)(lf bm bm':List Nat)(a:Option Addr)(n c:Nat)(hl:lf.length=64)(hb:bm.length=32)(hk:Key bm')(w:World) :
  Calls Tryz.prog 111 #[.agg (zAB kd dp lf bm (.slice a n c)),.agg (kv bm')] w fun e w'=>e=.returned (.bool (((lenN bm':Nat):Int)==(n:Int)))∧Below w.heap.size w w':=by
 have H0:Hid ((zAB kd dp lf bm (.slice a n c))[98]?=some (.slice a n c)):=zCX hl hb;have Hk:=Lib.hid hk.len;have HL:=Lib.hid (Len_calls bm' hk);clear hk;generalize zAB kd dp lf bm (.slice a n c)=pc at *;have st:=St.init w;go_enter Tryz.func111,Tryz.ntmps111
 go_wp2_with (first
  |(refine zAD st rfl 43 _ rfl pc rfl ?_;intro b2 w1 st1;clear st)
  |(refine zAD st1 rfl 105 _ rfl (kv bm') rfl ?_;intro b3 w2 st2;clear st1))
 refine zBH 6 st2 zBL (by kernel_rfl) ?_;intro I hI hI';have q:∀wx,I wx→wx.cell? ⟨b2,98,none⟩=some (.slice a n c):=fun wx hw=>((hI wx hw).cell (i:=1) rfl 98).trans H0.out
 simp only[List.take_succ_cons,List.take_zero,List.drop_succ_cons,List.drop_zero]
 (refine Inv.wpInv_step (fun K hK=>?_);go_simp;refine zDP 105 _ rfl b3 rfl _ aggBm rfl _ _ (fun wx hw=>(hI wx hw).at (i:=0) rfl) (zEO Hk.out) ?_
  refine hK _ ?_;clear hK K)
 (refine Inv.wpInv_step (fun K hK=>?_);go_simp;refine zDF hI hI' 112 #[.agg (kv bm')] ?_ (fun wx stx=>HL.out wx) ?_;· (intro wx hw;go_simp)
  refine hK _ ?_;clear hK K)
 iterate 4
  (refine Inv.wpInv_step (fun K hK=>?_);go_simp;apply zAL;· (intro wx hw;have q1:=q wx hw;go_simp;(try go_ints);(try go_simp);(try (rw[if_pos (by omega)]));(try go_simp);(first | done | rfl))
   refine hK _ ?_;clear hK K)
 refine Inv.wpInv_nil ?_;clear q hI hI' st2;intro w6 st6;go_wp2;go_ret;exact⟨rfl,st6.below⟩
end
section
set_option maxHeartbeats 1000000
open Go Go.RowKit
attribute [local irreducible] Inv.wpInv Mix.wpUp
def zEH(f:Nat)(e:Int):Array Value:=#[.func (.func f) #[] #[],.int .i64 e]
def zGU:Array Value:=#[.func (.func 106) #[] #[],.int .i64 7,.func (.func 107) #[] #[],.int .i64 5,.func (.func 108) #[] #[],.int .i64 5,.func (.func 109) #[] #[],.int .i64 5,.func (.func 111) #[] #[],.int .i64 5]
theorem zeroRules:(Tryz.prog.info? 153).bind (·.zero)=some (.agg #[.nilFunc,.int .i64 0,.nilFunc,.int .i64 0,.nilFunc,.int .i64 0,.nilFunc,.int .i64 0,.nilFunc,.int .i64 0]):=by kernel_rfl
theorem zHR:(Tryz.prog.info? 152).bind (·.zero)=some (.agg #[.nilFunc,.int .i64 0]):=by kernel_rfl
theorem sizeRule:(Tryz.prog.info? 152).map (·.size)=some 2:=by kernel_rfl
theorem sizeRules:(Tryz.prog.info? 153).map (·.size)=some 10:=by kernel_rfl
theorem aggRules:∃d,Tryz.prog.underlying 153=some d∧zGJ d=true:=by
 have h:(Tryz.prog.underlying 153).map zGJ=some true:=by kernel_rfl
 cases hq:Tryz.prog.underlying 153 with
 |none=>rw[hq] at h;cases h
 |some d=>rw[hq] at h;exact⟨d,rfl,Option.some.inj h⟩
theorem builtRule1:Tryz.prog.built 152 [(0,.func (.func 106) #[] #[]),(1,.int .i64 7)]=some (zEH 106 7):=by kernel_rfl
theorem builtRule2:Tryz.prog.built 152 [(0,.func (.func 107) #[] #[]),(1,.int .i64 5)]=some (zEH 107 5):=by kernel_rfl
theorem builtRule3:Tryz.prog.built 152 [(0,.func (.func 108) #[] #[]),(1,.int .i64 5)]=some (zEH 108 5):=by kernel_rfl
theorem builtRule4:Tryz.prog.built 152 [(0,.func (.func 109) #[] #[]),(1,.int .i64 5)]=some (zEH 109 5):=by kernel_rfl
theorem builtRule5:Tryz.prog.built 152 [(0,.func (.func 111) #[] #[]),(1,.int .i64 5)]=some (zEH 111 5):=by kernel_rfl
theorem builtRules:Tryz.prog.built 153 [(0,.agg (zEH 106 7)),(1,.agg (zEH 107 5)),(2,.agg (zEH 108 5)),(3,.agg (zEH 109 5)),(4,.agg (zEH 111 5))]=some zGU:=by kernel_rfl
set_option maxRecDepth 20000 in
theorem rules_calls(w:World):Calls Tryz.prog 63 #[] w fun e w'=>e=.returned (.agg zGU)∧Below w.heap.size w w':=by
 have st:=St.init w;go_enter Tryz.func63,Tryz.ntmps63
 go_wp2_with (first
  |(refine zAE st rfl 153 rfl _ zeroRules ?_;intro b0 w1 st1;clear st)
  |(refine zAM rfl 152 _ rfl _ rfl _ builtRule1 ?_)
  |(refine zAM rfl 152 _ rfl _ rfl _ builtRule2 ?_)
  |(refine zAM rfl 152 _ rfl _ rfl _ builtRule3 ?_)
  |(refine zAM rfl 152 _ rfl _ rfl _ builtRule4 ?_)
  |(refine zAM rfl 152 _ rfl _ rfl _ builtRule5 ?_)
  |(refine zAM rfl 153 _ rfl _ rfl _ builtRules ?_)
  |(refine zAA st1 rfl 153 _ _ rfl 0 b0 rfl (.agg zGU) rfl _ _ rfl sizeRules rfl (by decide) _ rfl ?_;intro w2 st2;clear st1))
 obtain⟨dR,hdR,haR⟩:=aggRules;exact zBX rfl b0 _ _ _ rfl (st2.at (i:=0) rfl) hdR haR sizeRules rfl ⟨rfl,st2.below⟩
def zGV(kd dp:Int)(lf bm:List Nat)(n:Nat):Int :=
 if (kd==0||kd==1)=false then 7 else if (decide (0≤dp)&&decide (dp≤256))=false then 5 else if (kd==1||decide (lf=List.replicate 64 0))=false then 5
 else if (lastI bm==dp - 1)=false then 5 else if (((lenN bm:Nat):Int)==(n:Int))=false then 5 else 0
end
section
set_option maxHeartbeats 1000000
open Go Go.RowKit
attribute [local irreducible] Inv.wpInv Mix.wpUp
theorem idxRule1(w:World):(Instr.index 153 (.agg zGU) (.int .i64 0)).run Tryz.prog w=.ok (.agg (zEH 106 7)) w:=by kernel_rfl
theorem idxRule2(w:World):(Instr.index 153 (.agg zGU) (.int .i64 1)).run Tryz.prog w=.ok (.agg (zEH 107 5)) w:=by kernel_rfl
theorem idxRule3(w:World):(Instr.index 153 (.agg zGU) (.int .i64 2)).run Tryz.prog w=.ok (.agg (zEH 108 5)) w:=by kernel_rfl
theorem idxRule4(w:World):(Instr.index 153 (.agg zGU) (.int .i64 3)).run Tryz.prog w=.ok (.agg (zEH 109 5)) w:=by kernel_rfl
theorem idxRule5(w:World):(Instr.index 153 (.agg zGU) (.int .i64 4)).run Tryz.prog w=.ok (.agg (zEH 111 5)) w:=by kernel_rfl
theorem zEY:∃d,Tryz.prog.underlying 36=some d∧zGJ d=true:=by
 have h:(Tryz.prog.underlying 36).map zGJ=some true:=by kernel_rfl
 cases hq:Tryz.prog.underlying 36 with
 |none=>rw[hq] at h;cases h
 |some d=>rw[hq] at h;exact⟨d,rfl,Option.some.inj h⟩
set_option maxRecDepth 20000 in
theorem Check_calls(kd dp:Int)(lf bm:List Nat)(a:Option Addr)(n c:Nat)(hl:lf.length=64)(hk:Key bm)(w:World) :
  Calls Tryz.prog 32 #[.agg (zAB kd dp lf bm (.slice a n c))] w fun e w'=>e=.returned (.int .i64 (zGV kd dp lf bm n))∧Below w.heap.size w w':=by
 have HS:Hid ((zAB kd dp lf bm (.slice a n c)).size=99):=zAO hl hk.len;have HBm:=Lib.hid (proofCells_bm (kd:=kd) (dp:=dp) (s:=.slice a n c) hl hk.len);have R1:=Lib.hid (rule1_calls kd dp lf bm bm (.slice a n c));have R2:=Lib.hid (rule2_calls kd dp lf bm bm (.slice a n c));have R3:=Lib.hid (rule3_calls kd dp lf bm bm (.slice a n c) hl hk.len);have R4:=Lib.hid (rule4_calls kd dp lf bm bm (.slice a n c) hk);have R5:=Lib.hid (rule5_calls kd dp lf bm bm a n c hl hk.len hk);have F0:Hid (zGV kd dp lf bm n=if (kd==0||kd==1)=false then 7 else if (decide (0≤dp)&&decide (dp≤256))=false then 5 else if (kd==1||decide (lf=List.replicate 64 0))=false then 5
 else if (lastI bm==dp - 1)=false then 5 else if (((lenN bm:Nat):Int)==(n:Int))=false then 5 else 0):=rfl
 have HD:Hid ((decide (0≤dp)&&decide (dp≤256))=true→0≤dp∧dp≤256):=by unfold Hid;simp
 clear hk;generalize zAB kd dp lf bm (.slice a n c)=pc at *;generalize kv bm=bv at *;generalize (kd==0||kd==1)=c1 at *;generalize (decide (0≤dp)&&decide (dp≤256))=c2 at *;generalize (kd==1||decide (lf=List.replicate 64 0))=c3 at *;generalize (lastI bm==dp - 1)=c4 at *;generalize (((lenN bm:Nat):Int)==(n:Int))=c5 at *;generalize zGV kd dp lf bm n=R at *;obtain⟨dP,hdP,haP⟩:=zGE;have st:=St.init w;go_enter Tryz.func32,Tryz.ntmps32
 go_wp2_with (first
  |(refine zAD st rfl 43 _ rfl pc rfl ?_;intro b1 w1 st1;clear st)
  |(go_at_call 63;refine(rules_calls _).mono ?_;rintro e w2 ⟨rfl,hbel⟩;have st2:=St.call st1 hbel;clear hbel st1))
 go_loopw [6] (fun i wr=>∃k:Int,0≤k∧k≤5∧i=.int .i64 k∧St w.heap.size w [(b1,pc,43)] wr∧Hid ((1≤k→c1=true)∧(2≤k→c2=true)∧(3≤k→c3=true)∧(4≤k→c4=true)∧(5≤k→c5=true))) (fun i _=>(5 - intOf i).toNat)
 case atStart=>exact⟨0,by omega,by omega,rfl,st2,by unfold Hid;simp⟩
 case round =>
  obtain⟨k,k0,k1,rfl,st3,hC⟩:=hrel;clear st2;obtain rfl | rfl | rfl | rfl | rfl | rfl:k=0∨k=1∨k=2∨k=3∨k=4∨k=5:=by omega
  ·have hidx:=idxRule1
   have hsz:(Tryz.prog.info? 152).map (·.size)=some (Value.agg (zEH 106 7)).cells.size:=sizeRule;have hsz2:(Value.agg (zEH 106 7)).cells.size=(#[Value.nilFunc,.int .i64 0]:Array Value).size:=rfl;have hr0:(zEH 106 7)[0]?=some (.func (.func 106) #[] #[]):=rfl;have hr1:(zEH 106 7)[1]?=some (.int .i64 7):=rfl;have hone:∀u∈(Value.agg (zEH 106 7)).cells.toList,u.oneCell'=true:=by decide
   generalize zEH 106 7=rc at *
   cases hc:c1
   ·go_wp2_with (first
     |(refine zAE st3 rfl 152 rfl _ zHR ?_;intro b4 w4 st4;clear st3)
     |(refine zAA st4 rfl 152 _ _ rfl 0 b4 rfl (.agg rc) rfl _ _ rfl hsz hsz2 hone _ rfl ?_;intro w5 st5;clear st4;have hc0:=(st5.cell (i:=0) rfl 0).trans hr0;have hc1:=(st5.cell (i:=0) rfl 1).trans hr1)
     |(refine zAC rfl 43 _ rfl b1 rfl _ hdP haP _ _ (st5.at (i:=1) rfl) (zAQ HS.out) ?_)
     |(refine zAP rfl 36 _ rfl b1 66 32 rfl zEY _ _ _ (st5.at (i:=1) rfl) zDH (by rw[HS.out];simp) _ HBm.out ?_)
     |(go_at_call 106;refine(R1.out _).mono ?_;rintro e w6 ⟨rfl,hbel⟩;have st6:=St.call st5 hbel;clear hbel st5;have hc2:=(st6.cell (i:=0) rfl 1).trans hr1))
    have hR:R=7:=by
     have h:=F0.out;simp only[hc] at h
     simpa using h
    go_ret;exact⟨by rw[hR];rfl,st6.below⟩
   ·go_wp2_with (first
     |(refine zAE st3 rfl 152 rfl _ zHR ?_;intro b4 w4 st4;clear st3)
     |(refine zAA st4 rfl 152 _ _ rfl 0 b4 rfl (.agg rc) rfl _ _ rfl hsz hsz2 hone _ rfl ?_;intro w5 st5;clear st4;have hc0:=(st5.cell (i:=0) rfl 0).trans hr0;have hc1:=(st5.cell (i:=0) rfl 1).trans hr1)
     |(refine zAC rfl 43 _ rfl b1 rfl _ hdP haP _ _ (st5.at (i:=1) rfl) (zAQ HS.out) ?_)
     |(refine zAP rfl 36 _ rfl b1 66 32 rfl zEY _ _ _ (st5.at (i:=1) rfl) zDH (by rw[HS.out];simp) _ HBm.out ?_)
     |(go_at_call 106;refine(R1.out _).mono ?_;rintro e w6 ⟨rfl,hbel⟩;have st6:=St.call st5 hbel;clear hbel st5;have hc2:=(st6.cell (i:=0) rfl 1).trans hr1))
    go_roundw
    case rel=>exact⟨1,by omega,by omega,rfl,st6.drop,⟨fun h=>trivial,fun h=>absurd h (by omega),fun h=>absurd h (by omega),fun h=>absurd h (by omega),fun h=>absurd h (by omega)⟩⟩
    case measure=>simp[intOf]
  ·have hidx:=idxRule2
   have hsz:(Tryz.prog.info? 152).map (·.size)=some (Value.agg (zEH 107 5)).cells.size:=sizeRule;have hsz2:(Value.agg (zEH 107 5)).cells.size=(#[Value.nilFunc,.int .i64 0]:Array Value).size:=rfl;have hr0:(zEH 107 5)[0]?=some (.func (.func 107) #[] #[]):=rfl;have hr1:(zEH 107 5)[1]?=some (.int .i64 5):=rfl;have hone:∀u∈(Value.agg (zEH 107 5)).cells.toList,u.oneCell'=true:=by decide
   generalize zEH 107 5=rc at *
   cases hc:c2
   ·go_wp2_with (first
     |(refine zAE st3 rfl 152 rfl _ zHR ?_;intro b4 w4 st4;clear st3)
     |(refine zAA st4 rfl 152 _ _ rfl 0 b4 rfl (.agg rc) rfl _ _ rfl hsz hsz2 hone _ rfl ?_;intro w5 st5;clear st4;have hc0:=(st5.cell (i:=0) rfl 0).trans hr0;have hc1:=(st5.cell (i:=0) rfl 1).trans hr1)
     |(refine zAC rfl 43 _ rfl b1 rfl _ hdP haP _ _ (st5.at (i:=1) rfl) (zAQ HS.out) ?_)
     |(refine zAP rfl 36 _ rfl b1 66 32 rfl zEY _ _ _ (st5.at (i:=1) rfl) zDH (by rw[HS.out];simp) _ HBm.out ?_)
     |(go_at_call 107;refine(R2.out _).mono ?_;rintro e w6 ⟨rfl,hbel⟩;have st6:=St.call st5 hbel;clear hbel st5;have hc2:=(st6.cell (i:=0) rfl 1).trans hr1))
    have hR:R=5:=by
     have h:=F0.out;simp only[hc,hC.out.1 (by omega)] at h
     simpa using h
    go_ret;exact⟨by rw[hR];rfl,st6.below⟩
   ·go_wp2_with (first
     |(refine zAE st3 rfl 152 rfl _ zHR ?_;intro b4 w4 st4;clear st3)
     |(refine zAA st4 rfl 152 _ _ rfl 0 b4 rfl (.agg rc) rfl _ _ rfl hsz hsz2 hone _ rfl ?_;intro w5 st5;clear st4;have hc0:=(st5.cell (i:=0) rfl 0).trans hr0;have hc1:=(st5.cell (i:=0) rfl 1).trans hr1)
     |(refine zAC rfl 43 _ rfl b1 rfl _ hdP haP _ _ (st5.at (i:=1) rfl) (zAQ HS.out) ?_)
     |(refine zAP rfl 36 _ rfl b1 66 32 rfl zEY _ _ _ (st5.at (i:=1) rfl) zDH (by rw[HS.out];simp) _ HBm.out ?_)
     |(go_at_call 107;refine(R2.out _).mono ?_;rintro e w6 ⟨rfl,hbel⟩;have st6:=St.call st5 hbel;clear hbel st5;have hc2:=(st6.cell (i:=0) rfl 1).trans hr1))
    go_roundw
    case rel=>exact⟨2,by omega,by omega,rfl,st6.drop,⟨fun h=>hC.out.1 (by omega),fun h=>trivial,fun h=>absurd h (by omega),fun h=>absurd h (by omega),fun h=>absurd h (by omega)⟩⟩
    case measure=>simp[intOf]
  ·have hidx:=idxRule3
   have hsz:(Tryz.prog.info? 152).map (·.size)=some (Value.agg (zEH 108 5)).cells.size:=sizeRule;have hsz2:(Value.agg (zEH 108 5)).cells.size=(#[Value.nilFunc,.int .i64 0]:Array Value).size:=rfl;have hr0:(zEH 108 5)[0]?=some (.func (.func 108) #[] #[]):=rfl;have hr1:(zEH 108 5)[1]?=some (.int .i64 5):=rfl;have hone:∀u∈(Value.agg (zEH 108 5)).cells.toList,u.oneCell'=true:=by decide
   generalize zEH 108 5=rc at *
   cases hc:c3
   ·go_wp2_with (first
     |(refine zAE st3 rfl 152 rfl _ zHR ?_;intro b4 w4 st4;clear st3)
     |(refine zAA st4 rfl 152 _ _ rfl 0 b4 rfl (.agg rc) rfl _ _ rfl hsz hsz2 hone _ rfl ?_;intro w5 st5;clear st4;have hc0:=(st5.cell (i:=0) rfl 0).trans hr0;have hc1:=(st5.cell (i:=0) rfl 1).trans hr1)
     |(refine zAC rfl 43 _ rfl b1 rfl _ hdP haP _ _ (st5.at (i:=1) rfl) (zAQ HS.out) ?_)
     |(refine zAP rfl 36 _ rfl b1 66 32 rfl zEY _ _ _ (st5.at (i:=1) rfl) zDH (by rw[HS.out];simp) _ HBm.out ?_)
     |(go_at_call 108;refine(R3.out _).mono ?_;rintro e w6 ⟨rfl,hbel⟩;have st6:=St.call st5 hbel;clear hbel st5;have hc2:=(st6.cell (i:=0) rfl 1).trans hr1))
    have hR:R=5:=by
     have h:=F0.out;simp only[hc,hC.out.1 (by omega),hC.out.2.1 (by omega)] at h
     simpa using h
    go_ret;exact⟨by rw[hR];rfl,st6.below⟩
   ·go_wp2_with (first
     |(refine zAE st3 rfl 152 rfl _ zHR ?_;intro b4 w4 st4;clear st3)
     |(refine zAA st4 rfl 152 _ _ rfl 0 b4 rfl (.agg rc) rfl _ _ rfl hsz hsz2 hone _ rfl ?_;intro w5 st5;clear st4;have hc0:=(st5.cell (i:=0) rfl 0).trans hr0;have hc1:=(st5.cell (i:=0) rfl 1).trans hr1)
     |(refine zAC rfl 43 _ rfl b1 rfl _ hdP haP _ _ (st5.at (i:=1) rfl) (zAQ HS.out) ?_)
     |(refine zAP rfl 36 _ rfl b1 66 32 rfl zEY _ _ _ (st5.at (i:=1) rfl) zDH (by rw[HS.out];simp) _ HBm.out ?_)
     |(go_at_call 108;refine(R3.out _).mono ?_;rintro e w6 ⟨rfl,hbel⟩;have st6:=St.call st5 hbel;clear hbel st5;have hc2:=(st6.cell (i:=0) rfl 1).trans hr1))
    go_roundw
    case rel=>exact⟨3,by omega,by omega,rfl,st6.drop,⟨fun h=>hC.out.1 (by omega),fun h=>hC.out.2.1 (by omega),fun h=>trivial,fun h=>absurd h (by omega),fun h=>absurd h (by omega)⟩⟩
    case measure=>simp[intOf]
  ·have hidx:=idxRule4
   have hsz:(Tryz.prog.info? 152).map (·.size)=some (Value.agg (zEH 109 5)).cells.size:=sizeRule;have hsz2:(Value.agg (zEH 109 5)).cells.size=(#[Value.nilFunc,.int .i64 0]:Array Value).size:=rfl;have hr0:(zEH 109 5)[0]?=some (.func (.func 109) #[] #[]):=rfl;have hr1:(zEH 109 5)[1]?=some (.int .i64 5):=rfl;have hone:∀u∈(Value.agg (zEH 109 5)).cells.toList,u.oneCell'=true:=by decide
   generalize zEH 109 5=rc at *
   cases hc:c4
   ·go_wp2_with (first
     |(refine zAE st3 rfl 152 rfl _ zHR ?_;intro b4 w4 st4;clear st3)
     |(refine zAA st4 rfl 152 _ _ rfl 0 b4 rfl (.agg rc) rfl _ _ rfl hsz hsz2 hone _ rfl ?_;intro w5 st5;clear st4;have hc0:=(st5.cell (i:=0) rfl 0).trans hr0;have hc1:=(st5.cell (i:=0) rfl 1).trans hr1)
     |(refine zAC rfl 43 _ rfl b1 rfl _ hdP haP _ _ (st5.at (i:=1) rfl) (zAQ HS.out) ?_)
     |(refine zAP rfl 36 _ rfl b1 66 32 rfl zEY _ _ _ (st5.at (i:=1) rfl) zDH (by rw[HS.out];simp) _ HBm.out ?_)
     |(go_at_call 109;refine(R4.out (HD.out (hC.out.2.1 (by omega))).1 (HD.out (hC.out.2.1 (by omega))).2 _).mono ?_;rintro e w6 ⟨rfl,hbel⟩;have st6:=St.call st5 hbel;clear hbel st5;have hc2:=(st6.cell (i:=0) rfl 1).trans hr1))
    have hR:R=5:=by
     have h:=F0.out;simp only[hc,hC.out.1 (by omega),hC.out.2.1 (by omega),hC.out.2.2.1 (by omega)] at h
     simpa using h
    go_ret;exact⟨by rw[hR];rfl,st6.below⟩
   ·go_wp2_with (first
     |(refine zAE st3 rfl 152 rfl _ zHR ?_;intro b4 w4 st4;clear st3)
     |(refine zAA st4 rfl 152 _ _ rfl 0 b4 rfl (.agg rc) rfl _ _ rfl hsz hsz2 hone _ rfl ?_;intro w5 st5;clear st4;have hc0:=(st5.cell (i:=0) rfl 0).trans hr0;have hc1:=(st5.cell (i:=0) rfl 1).trans hr1)
     |(refine zAC rfl 43 _ rfl b1 rfl _ hdP haP _ _ (st5.at (i:=1) rfl) (zAQ HS.out) ?_)
     |(refine zAP rfl 36 _ rfl b1 66 32 rfl zEY _ _ _ (st5.at (i:=1) rfl) zDH (by rw[HS.out];simp) _ HBm.out ?_)
     |(go_at_call 109;refine(R4.out (HD.out (hC.out.2.1 (by omega))).1 (HD.out (hC.out.2.1 (by omega))).2 _).mono ?_;rintro e w6 ⟨rfl,hbel⟩;have st6:=St.call st5 hbel;clear hbel st5;have hc2:=(st6.cell (i:=0) rfl 1).trans hr1))
    go_roundw
    case rel=>exact⟨4,by omega,by omega,rfl,st6.drop,⟨fun h=>hC.out.1 (by omega),fun h=>hC.out.2.1 (by omega),fun h=>hC.out.2.2.1 (by omega),fun h=>trivial,fun h=>absurd h (by omega)⟩⟩
    case measure=>simp[intOf]
  ·have hidx:=idxRule5
   have hsz:(Tryz.prog.info? 152).map (·.size)=some (Value.agg (zEH 111 5)).cells.size:=sizeRule;have hsz2:(Value.agg (zEH 111 5)).cells.size=(#[Value.nilFunc,.int .i64 0]:Array Value).size:=rfl;have hr0:(zEH 111 5)[0]?=some (.func (.func 111) #[] #[]):=rfl;have hr1:(zEH 111 5)[1]?=some (.int .i64 5):=rfl;have hone:∀u∈(Value.agg (zEH 111 5)).cells.toList,u.oneCell'=true:=by decide
   generalize zEH 111 5=rc at *
   cases hc:c5
   ·go_wp2_with (first
     |(refine zAE st3 rfl 152 rfl _ zHR ?_;intro b4 w4 st4;clear st3)
     |(refine zAA st4 rfl 152 _ _ rfl 0 b4 rfl (.agg rc) rfl _ _ rfl hsz hsz2 hone _ rfl ?_;intro w5 st5;clear st4;have hc0:=(st5.cell (i:=0) rfl 0).trans hr0;have hc1:=(st5.cell (i:=0) rfl 1).trans hr1)
     |(refine zAC rfl 43 _ rfl b1 rfl _ hdP haP _ _ (st5.at (i:=1) rfl) (zAQ HS.out) ?_)
     |(refine zAP rfl 36 _ rfl b1 66 32 rfl zEY _ _ _ (st5.at (i:=1) rfl) zDH (by rw[HS.out];simp) _ HBm.out ?_)
     |(go_at_call 111;refine(R5.out _).mono ?_;rintro e w6 ⟨rfl,hbel⟩;have st6:=St.call st5 hbel;clear hbel st5;have hc2:=(st6.cell (i:=0) rfl 1).trans hr1))
    have hR:R=5:=by
     have h:=F0.out;simp only[hc,hC.out.1 (by omega),hC.out.2.1 (by omega),hC.out.2.2.1 (by omega),hC.out.2.2.2.1 (by omega)] at h
     simpa using h
    go_ret;exact⟨by rw[hR];rfl,st6.below⟩
   ·go_wp2_with (first
     |(refine zAE st3 rfl 152 rfl _ zHR ?_;intro b4 w4 st4;clear st3)
     |(refine zAA st4 rfl 152 _ _ rfl 0 b4 rfl (.agg rc) rfl _ _ rfl hsz hsz2 hone _ rfl ?_;intro w5 st5;clear st4;have hc0:=(st5.cell (i:=0) rfl 0).trans hr0;have hc1:=(st5.cell (i:=0) rfl 1).trans hr1)
     |(refine zAC rfl 43 _ rfl b1 rfl _ hdP haP _ _ (st5.at (i:=1) rfl) (zAQ HS.out) ?_)
     |(refine zAP rfl 36 _ rfl b1 66 32 rfl zEY _ _ _ (st5.at (i:=1) rfl) zDH (by rw[HS.out];simp) _ HBm.out ?_)
     |(go_at_call 111;refine(R5.out _).mono ?_;rintro e w6 ⟨rfl,hbel⟩;have st6:=St.call st5 hbel;clear hbel st5;have hc2:=(st6.cell (i:=0) rfl 1).trans hr1))
    go_roundw
    case rel=>exact⟨5,by omega,by omega,rfl,st6.drop,⟨fun h=>hC.out.1 (by omega),fun h=>hC.out.2.1 (by omega),fun h=>hC.out.2.2.1 (by omega),fun h=>hC.out.2.2.2.1 (by omega),fun h=>trivial⟩⟩
    case measure=>simp[intOf]
  ·have hR:R=0:=by
    have h:=F0.out;simp only[hC.out.1 (by omega),hC.out.2.1 (by omega),hC.out.2.2.1 (by omega),hC.out.2.2.2.1 (by omega),hC.out.2.2.2.2 (by omega)] at h
    simpa using h
   go_wp2;go_ret;exact⟨by rw[hR];rfl,st3.below⟩
end
section
set_option maxHeartbeats 1000000
open Go Go.RowKit
attribute [local irreducible] Inv.wpInv Mix.wpUp
theorem check_leaf(lf:List Nat):zGV 1 0 lf zAH 0=0:=by
 have h1:lastI zAH = -1:=by decide +kernel
 have h2:lenN zAH=0:=by decide +kernel
 unfold zGV;simp[h1,h2]
set_option maxRecDepth 20000 in
theorem Size_calls(lf:List Nat)(hl:lf.length=64)(w:World) :
  Calls Tryz.prog 55 #[.agg (zAB 1 0 lf zAH (.slice none 0 0))] w fun e w'=>e=.returned (.int .i64 100)∧Below w.heap.size w w':=by
 have HC:=Lib.hid (fun wx=>Check_calls 1 0 lf zAH none 0 0 hl zIO wx);rw[check_leaf lf] at HC;have HS:Hid ((zAB 1 0 lf zAH (.slice none 0 0)).size=99):=zAO hl rfl;have H0:Hid ((zAB 1 0 lf zAH (.slice none 0 0))[0]?=some (.int .i64 1)):=zEC;have H98:Hid ((zAB 1 0 lf zAH (.slice none 0 0))[98]?=some (.slice none 0 0)):=zCX hl rfl;generalize zAB 1 0 lf zAH (.slice none 0 0)=pc at *;obtain⟨dP,hdP,haP⟩:=zGE;have st:=St.init w;go_enter Tryz.func55,Tryz.ntmps55
 go_wp2_with (first
  |(refine zAD st rfl 43 _ rfl pc rfl ?_;intro b1 w1 st1;clear st)
  |(refine zAC rfl 43 _ rfl b1 rfl _ hdP haP _ _ (st1.at (i:=0) rfl) (zAQ HS.out) ?_)
  |(go_at_call 32;refine(HC.out _).mono ?_;rintro e w2 ⟨rfl,hbel⟩;have st2:=St.call st1 hbel;clear hbel st1;have hc0:=(st2.cell (i:=0) rfl 0).trans H0.out;have hc98:=(st2.cell (i:=0) rfl 98).trans H98.out))
 go_ret;exact⟨rfl,st2.below⟩
end
end Go.Proofs.YtlcngapphloafaaGreatDoor
