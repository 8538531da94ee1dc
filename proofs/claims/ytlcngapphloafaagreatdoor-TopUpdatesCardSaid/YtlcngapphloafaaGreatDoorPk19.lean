/- Parts of the proof that are used by the claim: Repeat, Expand. No condition is added here. -/
import Derived.Test.YtlcngapphloafaaGreatDoorPk17
import Derived.Test.YtlcngapphloafaaGreatDoorPk18
import Derived.Laws.IdiomCopy
import Derived.Lib.SlBuf
import Derived.Deep.CutRange
namespace Go.Proofs.YtlcngapphloafaaGreatDoor
section
set_option maxHeartbeats 2000000
open Go Go.RowKit
attribute [local irreducible] Inv.wpInv Mix.wpUp
section
variable {P:Program}
theorem run_copy_rowN(w:World)(dT sT ty elem:TypeId)(g o dLen dCap sz:Nat)(a:Addr)(sLen sCap:Nat)(cur:Array Value)(t:TypeId)(cs:List Value)
  (hu:P.underlying dT=some (.slice elem)) (hs:(P.info? elem).map (·.size)=some sz)
  (hg:w.heap[g]?=some (.cells cur t (0,0))) (hn:cs.length=Nat.min sLen dLen*sz)
  (hsrc:∀j v,cs[j]?=some v→w.cell? (a.add j)=some v) (hfit:o+cs.length≤cur.size) (h1:∀v∈cs,v.oneCell'=true) :
  (Builtin.copy_ #[dT,sT] ty #[.slice (some ⟨g,o,none⟩) dLen dCap,.slice (some a) sLen sCap]).run P w =
   .ok (goInt (Nat.min sLen dLen)) (w.setRow g (zCT cur o (.agg cs.toArray))):=by
 have hl:=run_loadCells_list (P:=P) w a cs hsrc;have hst:=run_storeCells_at P g o t cs 0 cur w hg (by simpa using hfit) h1
 cases hq:P.info? elem with
 |none=>simp[hq] at hs
 |some i =>
  have hi:i.size=sz:=by simpa[hq] using hs
  simp[Builtin.copy_,run_underlying hu,Builtin.lenOf,Builtin.firstCells,sizeOf,typeInfo,hq,hi,←hn,hl,hst,zCT,Value.cells]
theorem run_copy_noneN(w:World)(dT sT ty elem:TypeId)(sz:Nat)(d a:Option Addr)(dLen dCap sLen sCap:Nat)(hu:P.underlying dT=some (.slice elem))(hs:(P.info? elem).map (·.size)=some sz)(hn:Nat.min sLen dLen=0) :
  (Builtin.copy_ #[dT,sT] ty #[.slice d dLen dCap,.slice a sLen sCap]).run P w=.ok (goInt 0) w:=by
 cases hq:P.info? elem with
 |none=>simp[hq] at hs
 |some i =>
  have hl:∀(x:Addr),(loadCells x 0).run P w=.ok #[] w:=fun x=>by simpa using run_loadCells_list (P:=P) w x [] (by simp)
  cases d<;>cases a<;>simp[Builtin.copy_,run_underlying hu,Builtin.lenOf,Builtin.firstCells,sizeOf,typeInfo,hq,hn,storeCells,hl]
theorem zIY{t e:TypeId}{sz:Nat}(ht:P.underlying t=some (.slice e))(hs:(P.info? e).map (·.size)=some sz)(a:Option Addr)(n c:Nat)(k:IntKind)(lo:Nat)(h:lo≤n)(hc:¬c=lo)(w:World) :
  (Instr.slice t (.slice a n c) (some (.int k lo)) none none).run P w=.ok (.slice (a.map (·.add (lo*sz))) (n - lo) (c - lo)) w:=by
 cases hq:P.info? e with
 |none=>simp[hq] at hs
 |some i =>
  have hz:i.size=sz:=by simpa[hq] using hs
  simp[Instr.slice,Instr.sliceBounds,Instr.sliceBound,asIntOf,run_underlying ht,sizeOf,typeInfo,hq,hz,Sem.run_bind,h,hc,Result.andThen]
theorem zIK{t e:TypeId}{sz:Nat}(ht:P.underlying t=some (.slice e))(hs:(P.info? e).map (·.size)=some sz)(a:Addr)(n c:Nat)(k:IntKind)(hi:Nat)(h:hi≤c)(hsp:a.spot=none)(w:World) :
  (Instr.slice t (.slice (some a) n c) none (some (.int k hi)) none).run P w=.ok (.slice (some a) hi c) w:=by
 cases hq:P.info? e with
 |none=>simp[hq] at hs
 |some i =>
  have e:a.add 0=a:=by cases a;simp_all [Addr.add]
  simp[Instr.slice,Instr.sliceBounds,Instr.sliceBound,asIntOf,run_underlying ht,sizeOf,typeInfo,hq,Sem.run_bind,h,Result.andThen,e]
end
def repL(D:List Nat)(n:Nat):List Nat:=(List.replicate n D).flatten
theorem zIM(D:List Nat)(hD:D.length=32)(n:Nat):(repL D n).length=32*n:=by
 unfold repL;rw[List.length_flatten,List.map_replicate,List.sum_replicate_nat,hD,Nat.mul_comm]
theorem repL_add(D:List Nat)(m n:Nat):repL D (m+n)=repL D m++repL D n:=by
 unfold repL;rw[←List.replicate_append_replicate,List.flatten_append]
def repS(D:List Nat)(c n:Nat):List Nat:=repL D c++List.replicate (32*(n - c)) 0
theorem repS_len(D:List Nat)(hD:D.length=32)(c n:Nat)(h:c≤n):(repS D c n).length=32*n:=by
 unfold repS;rw[List.length_append,zIM D hD,List.length_replicate];omega
theorem repS_full(D:List Nat)(n:Nat):repS D n n=repL D n:=by unfold repS;simp
theorem kv_put(l m:List Nat)(o:Nat):zCT (kv l) o (.agg (kv m))=kv (l.take o++(m++l.drop (o+m.length))):=by
 unfold zCT;rw[zCJ]
 show ((zAJ l).take o++((kv m).toList++(zAJ l).drop (o+(kv m).size))).toArray=_
 rw[zCJ,zAF,←zBK,zCB,zCB];simp[zAJ,List.map_take,List.map_drop]
theorem repS_put(D:List Nat)(hD:D.length=32)(c m n:Nat)(h:c+m≤n):zCT (kv (repS D c n)) (c*32) (.agg (kv (repL D m)))=kv (repS D (c+m) n):=by
 rw[kv_put,zIM D hD]
 congr 1
 unfold repS;rw[List.take_left' (by rw[zIM D hD];omega),repL_add,List.append_assoc]
 congr 1
 congr 1
 rw[show c*32+32*m=(repL D c).length+32*m by rw[zIM D hD];omega,←List.drop_drop,List.drop_left,List.drop_replicate]
 congr 1
 omega
theorem repS_take(D:List Nat)(hD:D.length=32)(c m n:Nat)(h:m≤c):(repS D c n).take (32*m)=repL D m:=by
 unfold repS;rw[show c=m+(c - m) by omega,repL_add,List.append_assoc,List.take_left' (by rw[zIM D hD])]
theorem made_zero(D:List Nat)(n:Nat):madeCells (Value.agg (kv zAH)).cells (n*32)=kv (repS D 0 n):=by
 have e:repS D 0 n=List.replicate (n*32) 0:=by unfold repS repL;simp[Nat.mul_comm]
 rw[e];apply Array.ext
 ·rw[size_madeCells,zAF,List.length_replicate]
 ·intro i h1 h2
  have hi:i<n*32:=by rwa [size_madeCells] at h1
  have h3:(kv (List.replicate (n*32) 0))[i]?=some (.int .u8 0):=by rw[zFX _ _ (by simpa using hi)];simp[List.getD_eq_getElem?_getD,hi]
  have h4:∀j,j<32→(kv zAH)[j]! = .int .u8 0:=fun j hj=>by
   have h6:(kv zAH)[j]?=some (.int .u8 0):=by
    have h7:zAH.getD j 0=0:=by unfold zAH;rw[List.getD_eq_getElem?_getD,List.getElem?_replicate];split<;>rfl
    rw[zFX _ _ hj,h7];rfl
   rw[getElem!_def,h6]
  have h5:(madeCells (Value.agg (kv zAH)).cells (n*32))[i]=(kv zAH)[i%(kv zAH).size]! := by simp[madeCells,Value.cells]
  rw[h5,show (kv zAH).size=32 from by rw[zAF];rfl,h4 _ (Nat.mod_lt _ (by decide))];rw[Array.getElem?_eq_getElem h2] at h3;exact(Option.some.inj h3).symm
theorem copy_first(D:List Nat)(hD:D.length=32)(n:Nat)(hn:0<n)(wx:World)(ty:TypeId)(g b0:Nat)(t0:TypeId)(h0:wx.heap[b0]?=some (.cells (kv D) t0 (0,0)))(hg:wx.heap[g]?=some (.cells (kv (repS D 0 n)) 38 (0,0))) :
  (Builtin.copy_ #[41,41] ty #[.slice (some ⟨g,0,none⟩) n n,.slice (some ⟨b0,0,none⟩) 1 1]).run Tryz.prog wx=.ok (goInt 1) (wx.setRow g (kv (repS D 1 n))):=by
 have hm:Nat.min 1 n=1:=Nat.min_eq_left (by omega);have h:=run_copy_rowN wx 41 41 ty _ g 0 n n 32 ⟨b0,0,none⟩ 1 1 (kv (repS D 0 n)) 38 (zAJ D) zFO zBV hg (by rw[zAI,hD,hm]) (fun j u hu=>by
  have hadd:(⟨b0,0,none⟩:Addr).add j=⟨b0,j,none⟩:=by unfold Addr.add;split<;>simp_all
  rw[hadd,cell_of_row _ b0 j (kv D) t0 (0,0) h0,←Array.getElem?_toList,zCJ];exact hu) (by rw[zAI,hD,zAF,repS_len D hD _ _ (by omega)];omega) (bcells_one D)
 have e:zCT (kv (repS D 0 n)) 0 (.agg (zAJ D).toArray)=kv (repS D 1 n):=by
  have h1:=repS_put D hD 0 1 n (by omega);have e1:repL D 1=D:=by simp[repL]
  rw[e1,←zBK] at h1;rw[←zBK];rw[←zBK] at h1;exact h1
 rw[hm,e] at h;exact h
theorem copy_more(D:List Nat)(hD:D.length=32)(c n:Nat)(hn:c<n)(wx:World)(ty:TypeId)(g:Nat)(hg:wx.heap[g]?=some (.cells (kv (repS D c n)) 38 (0,0))) :
  (Builtin.copy_ #[41,41] ty #[.slice (some ⟨g,c*32,none⟩) (n - c) (n - c),.slice (some ⟨g,0,none⟩) c n]).run Tryz.prog wx=.ok (goInt ((min c (n - c):Nat):Int)) (wx.setRow g (kv (repS D (c+min c (n - c)) n))):=by
 have hlen:(repL D (min c (n - c))).length=32*min c (n - c):=zIM D hD _;have h:=run_copy_rowN wx 41 41 ty _ g (c*32) (n - c) (n - c) 32 ⟨g,0,none⟩ c n (kv (repS D c n)) 38 (zAJ (repL D (min c (n - c)))) zFO zBV hg (by rw[zAI,hlen,Nat.mul_comm]) (fun j u hu=>by
  have hadd:(⟨g,0,none⟩:Addr).add j=⟨g,j,none⟩:=by unfold Addr.add;split<;>simp_all
  have hj:j<32*min c (n - c):=by have:=(List.getElem?_eq_some_iff.1 hu).1;rwa [zAI,hlen] at this
  rw[hadd,cell_of_row _ g j _ _ (0,0) hg,zFX _ j (by rw[repS_len D hD _ _ (by omega)];omega),←hu,zHP _ j (by rw[hlen];exact hj),←repS_take D hD c (min c (n - c)) n (Nat.min_le_left _ _)];rw[List.getD_eq_getElem?_getD,List.getD_eq_getElem?_getD,List.getElem?_take,if_pos hj]) (by rw[zAI,hlen,zAF,repS_len D hD _ _ (by omega)];omega) (bcells_one _)
 have e:zCT (kv (repS D c n)) (c*32) (.agg (zAJ (repL D (min c (n - c)))).toArray)=kv (repS D (c+min c (n - c)) n):=by
  rw[zBK];exact repS_put D hD c (min c (n - c)) n (by omega)
 rw[e] at h;exact h
set_option maxRecDepth 20000 in
theorem Repeat_calls(D:List Nat)(hD:D.length=32)(n:Nat)(hn:n≤256)(b0:Nat)(t0:TypeId)(w:World)(hsrc:w.heap[b0]?=some (.cells (kv D) t0 (0,0))) :
  Calls Tryz.prog 133 #[.slice (some ⟨b0,0,none⟩) 1 1,.int .i64 n] w
   fun e w'=>∃g,e=.returned (.slice (some ⟨g,0,none⟩) n n)∧w.heap.size≤g∧w'.heap[g]?=some (.cells (kv (repL D n)) 38 (0,0))∧Below w.heap.size w w':=by
 have HSrc:=Lib.hid hsrc;have hlt:=zAG hsrc;have HMul:Hid (∀wx,Calls Tryz.prog 164 #[.int .u64 1,.int .u64 (n:Nat)] wx fun e w'=>e=.returned (.tuple #[.int .u64 0,.int .u64 (n:Nat)])∧w'=wx):=fun wx=>by
  have h:=Tryz.bits_Mul 1 n (by omega) (by omega) wx;have e1:1*n / 18446744073709551616=0:=by omega
  have e2:1*n%18446744073709551616=n:=by omega
  rw[e1,e2] at h;exact h
 clear hsrc;have hn0:(0:Int)≤(n:Nat):=by omega
 have hn1:((n:Nat):Int)≤256:=by omega
 have st:=St.init w
 by_cases h0:n=0
 ·subst h0
  have HMul0:Hid (∀wx,Calls Tryz.prog 164 #[.int .u64 1,.int .u64 0] wx fun e w'=>e=.returned (.tuple #[.int .u64 0,.int .u64 0])∧w'=wx):=HMul;have hcp:∀(wx:World)(ty:TypeId) (g:Nat),(Builtin.copy_ #[41,41] ty #[.slice (some ⟨g,0,none⟩) 0 0,.slice (some ⟨b0,0,none⟩) 1 1]).run Tryz.prog wx=.ok (goInt 0) wx:=fun wx ty g=>run_copy_noneN wx _ _ ty _ 32 _ _ 0 0 1 1 zFO zBV rfl
  clear HMul;go_enter Tryz.func133,Tryz.ntmps133
  go_wp2_with (first
   |(go_at_call 164;refine(HMul0.out _).mono ?_;rintro e w1 ⟨rfl,rfl⟩)
   |(refine zIX st rfl 41 _ _ rfl 38 (.agg (kv zAH)) 32 32 zFO zCG zBV bytesDig .i64 .i64 0 0 rfl rfl (by omega) (by omega) (by omega) (by omega) ?_;intro g w2 st2;clear st)
   |(at_builtin;refine Lib.wpList_copy_run _ rfl _ _ 41 41 rfl (.slice (some ⟨g,0,none⟩) 0 0) (.slice (some ⟨b0,0,none⟩) 1 1) rfl rfl (hcp _ _ g) ?_))
  refine wp_loop_rounds 1 ?_;rw[rounds_succ];go_wp2;go_ret;have h:=st2.at (i:=0) rfl;have e:madeCells (Value.agg (kv zAH)).cells (Int.toNat 0*32)=kv (repL D 0):=(made_zero D 0).trans (congrArg kv (repS_full D 0));rw[e] at h;exact⟨g,rfl,st2.above (i:=0) rfl,h,st2.below⟩
 ·go_enter Tryz.func133,Tryz.ntmps133
  go_upto_region 7 with (first
   |(go_at_call 164;refine(HMul.out _).mono ?_;rintro e w1 ⟨rfl,hw1⟩;rw[hw1];clear hw1 w1)
   |(refine zIX st rfl 41 _ _ rfl 38 (.agg (kv zAH)) 32 32 zFO zCG zBV bytesDig .i64 .i64 (n:Nat) (n:Nat) rfl rfl (by omega) (by omega) (by omega) (by omega) ?_;intro g w2 st2;clear st;rw[Int.toNat_natCast,made_zero D n] at st2;have hsrc2:=(st2.below.block b0 hlt).trans HSrc.out))
  have hq:=copy_first D hD n (by omega) w2 3 g b0 t0 hsrc2 (st2.at (i:=0) rfl);go_wp2;have st3:=st2.put (i:=0) rfl (kv (repS D 1 n)) rfl;clear st2 hsrc2;clear hq
  go_loopw [8] (fun i wr=>∃c:Nat,1≤c∧c≤n∧i=.int .i64 (c:Nat)∧St w.heap.size w [(g,kv (repS D c n),38)] wr) (fun i _=>n - (intOf i).toNat)
  case atStart=>exact⟨1,by omega,by omega,rfl,st3⟩
  case round =>
   obtain⟨c,c0,c1,rfl,st4⟩:=hrel;clear st3
   by_cases hc:c<n
   ·have hc':((c:Nat):Int)<(n:Nat):=by omega
    have hsl1:∀wx,(Instr.slice 41 (.slice (some ⟨g,0,none⟩) n n) (some (.int .i64 (c:Nat))) none none).run Tryz.prog wx=.ok (.slice (some ⟨g,c*32,none⟩) (n - c) (n - c)) wx:=fun wx=>by
     have h:=zIY (P:=Tryz.prog) zFO zBV (some ⟨g,0,none⟩) n n .i64 c (by omega) (by omega) wx;have e:(⟨g,0,none⟩:Addr).add (c*32)=⟨g,c*32,none⟩:=by unfold Addr.add;rw[if_neg (by omega)];simp
     rw[Option.map_some,e] at h;exact h
    have hsl2:∀wx,(Instr.slice 41 (.slice (some ⟨g,0,none⟩) n n) none (some (.int .i64 (c:Nat))) none).run Tryz.prog wx=.ok (.slice (some ⟨g,0,none⟩) c n) wx:=fun wx=>zIK zFO zBV ⟨g,0,none⟩ n n .i64 c (by omega) rfl wx
    go_wp2;refine Mix2.wp_region_mix (J:=fun _=>True) 8 (St w.heap.size w [(g,kv (repS D c n),38)]) zBL (by kernel_rfl) st4.drew ?_;intro F inv;refine Mix2.good_batch (f:=1) F St.up (fun _ _=>trivial) [0,1,2,3,4,5,6] _ _ inv (by kernel_rfl) ?_;clear inv st4
    iterate 7
     (refine Mix.wpUp_cons rfl (fun K hK=>?_);go_simp;apply zAU;· (intro wx hw;go_simp;(try go_ints);(try go_simp);(try (rw[if_pos (by omega)]));(try go_simp);(first | done | rfl))
      refine hK _ ?_;clear hK K)
    refine Mix.wpUp_nil ?_;intro inv;refine Mix2.good_one (i:=7) (f:=0) (by kernel_rfl) inv (fun w5 st5=>?_);clear inv hsl1 hsl2;have hq:=copy_more D hD c n hc w5 3 g (st5.at (i:=0) rfl);refine Mix.mxOp_go rfl rfl ?_;refine Lib.wp_copy_run _ _ _ 41 41 rfl (.slice (some ⟨g,c*32,none⟩) (n - c) (n - c)) (.slice (some ⟨g,0,none⟩) c n) rfl rfl hq ?_;refine⟨St w.heap.size w [(g,kv (repS D (c+min c (n - c)) n),38)],St.up,st5.put (i:=0) rfl (kv (repS D (c+min c (n - c)) n)) rfl,fun _ _=>trivial,fun inv=>?_⟩;clear inv F hq st5;refine⟨by kernel_rfl,fun w6 st6=>?_⟩;simp only[List.drop_succ_cons,List.drop_zero,Act.put,List.getElem_toArray,List.getElem_cons_succ,List.getElem_cons_zero,List.setIfInBounds_toArray,List.set_cons_succ,List.set_cons_zero];have hm:c+min c (n - c)≤n:=by omega
    have hm1:0<min c (n - c):=by omega
    have hw:wrap64 ((c:Nat)+((min c (n - c):Nat):Int))=((c+min c (n - c):Nat):Int):=by rw[wrap64_ok _ (by omega)];omega
    generalize min c (n - c)=m at *;go_wp2;go_roundw
    case rel=>exact⟨c+m,by omega,hm,by first | rfl | (simp[goInt,hw];done),st6⟩
    case measure=>simp[intOf];omega
   ·obtain rfl:c=n:=by omega
    rw[repS_full] at st4;go_wp2;go_ret;exact⟨g,rfl,st4.above (i:=0) rfl,st4.at (i:=0) rfl,st4.below⟩
end
section
set_option maxHeartbeats 2000000
open Go Go.RowKit
attribute [local irreducible] Inv.wpInv Mix.wpUp
def setD(X:List Nat)(d:Nat)(k:List Nat):List Nat:=X.take (32*d)++(k++X.drop (32*d+32))
theorem setD_len{X k:List Nat}{d:Nat}(hk:k.length=32)(h:32*d+32≤X.length):(setD X d k).length=X.length:=by unfold setD;simp[hk];omega
def expF(E:List Nat)(m:Nat)(l:List Nat)(sib:List Nat):List Nat:=l.zipIdx.foldl (fun X p=>setD X p.1 ((sib.drop (32*p.2)).take 32)) (repL E m)
theorem expF_snoc(E:List Nat)(m:Nat)(l:List Nat)(d:Nat)(sib:List Nat):expF E m (l++[d]) sib=setD (expF E m l sib) d ((sib.drop (32*l.length)).take 32):=by
 unfold expF;rw[List.zipIdx_append,List.foldl_append];simp
theorem expF_len(E:List Nat)(hE:E.length=32)(m:Nat)(sib:List Nat):∀(n:Nat)(l:List Nat),l.length=n→(∀d∈l,d<m)→32*n≤sib.length→(expF E m l sib).length=32*m
 |0,l,h,_,_=>by
  obtain rfl:=List.length_eq_zero_iff.1 h;exact zIM E hE m
 |n+1,l,h,hd,hs=>by
  rcases List.eq_nil_or_concat l with rfl | ⟨ys,d,rfl⟩
  ·simp at h
  ·rw[List.concat_eq_append] at h hd ⊢
   have hy:ys.length=n:=by simpa using h
   have ih:=expF_len E hE m sib n ys hy (fun x hx=>hd x (by simp[hx])) (by omega);have hdm:=hd d (by simp);rw[expF_snoc,setD_len (by simp;omega) (by omega),ih]
theorem setD_lt{X k:List Nat}{d:Nat}(hX:∀x∈X,x<256)(hk:∀x∈k,x<256):∀x∈setD X d k,x<256:=by
 intro x hx;unfold setD at hx;simp only[List.mem_append] at hx;rcases hx with hx | hx | hx
 ·exact hX x (List.mem_of_mem_take hx)
 ·exact hk x hx
 ·exact hX x (List.mem_of_mem_drop hx)
theorem expF_lt(E:List Nat)(hE:∀x∈E,x<256)(m:Nat)(sib:List Nat)(hs:∀x∈sib,x<256):∀(n:Nat)(l:List Nat),l.length=n→∀x∈expF E m l sib,x<256
 |0,l,h=>by
  obtain rfl:=List.length_eq_zero_iff.1 h;intro x hx;have hx':x∈repL E m:=hx;unfold repL at hx';obtain⟨l',hl',hx2⟩:=List.mem_flatten.1 hx';have e:=List.eq_of_mem_replicate hl';rw[e] at hx2;exact hE x hx2
 |n+1,l,h=>by
  rcases List.eq_nil_or_concat l with rfl | ⟨ys,d,rfl⟩
  ·simp at h
  ·rw[List.concat_eq_append] at h ⊢
   have hy:ys.length=n:=by simpa using h
   rw[expF_snoc];exact setD_lt (expF_lt E hE m sib hs n ys hy) (fun x hx=>hs x (List.mem_of_mem_drop (List.mem_of_mem_take hx)))
theorem setB_le_last{b:List Nat}{x:Nat}(h:x∈setB b):(x:Int)≤lastI b:=by
 unfold setB at h;rw[List.mem_filter,List.mem_range] at h;have hl:=lastI_is b
 by_cases hlt:lastI b<(x:Int)
 ·have h0:=hl.none x hlt h.1
  rw[h0] at h;simp at h
 ·omega
theorem check_ok{kd dp:Int}{lf bm:List Nat}{n:Nat}(h:zGV kd dp lf bm n=0):0≤dp∧dp≤256∧lastI bm=dp - 1∧lenN bm=n:=by
 unfold zGV at h
 split at h
 ·cases h
 split at h
 ·cases h
 rename_i h2
 split at h
 ·cases h
 split at h
 ·cases h
 rename_i h4
 split at h
 ·cases h
 rename_i h5;simp at h2 h4 h5;omega
theorem RdD.turn{w w2:World}{cb:Nat}{m:Int}{t:TypeId}{fr:Nat×Nat}{v:Value}{n:Nat}{l:List Nat}(h:RdD w v n l)(hc:w.heap[cb]?=some (.cells #[.int .i64 m] t fr))(hg:w.grownBy w2 (some cb)):RdD w2 v n l:=by
 refine⟨h.1,h.2.1,?_⟩;rcases h.2.2 with h | ⟨b,off,cap,hv,hcc⟩
 ·exact .inl h
 ·refine .inr ⟨b,off,cap,hv,fun i hi=>?_⟩
  have h1:=hcc i hi;refine(World.cell?_of_block (w:=w) (hg.block b (zAS h1) ?_)).trans h1;intro e;obtain rfl:b=cb:=Option.some.inj e;simp only[World.cell?,hc,Option.isSome_none,Bool.false_eq_true,if_false] at h1
  cases hk:off+i with
  |zero=>rw[hk] at h1;simp at h1
  |succ k=>rw[hk] at h1;simp at h1
theorem Rd.open2{w:World}{v:Value}{l:List Int}(h:Rd w v l):∃a cap,v=.slice a l.length cap∧Hid (∀k,k<l.length→∃b off,a=some ⟨b,off,none⟩∧∀w':World,Below w.heap.size w w'→w'.cell? ⟨b,off+k,none⟩=some (.int .i64 (l.getD k 0))):=by
 rcases h.2 with ⟨rfl,a,c,rfl⟩ | ⟨b,off,c,rfl,hc⟩
 ·exact⟨a,c,rfl,fun k hk=>absurd hk (by simp)⟩
 ·exact⟨_,c,rfl,fun k hk=>⟨b,off,rfl,fun w' hb=>(hb.cell (zAS (hc k hk))).trans (hc k hk)⟩⟩
set_option maxRecDepth 20000 in
theorem Expand_calls(KK:List Int)(kd:Int)(dp:Nat)(lf bm sib:List Nat)(av:Option Addr)(n cv:Nat)(hl:lf.length=64)(hk:Key bm)(hck:zGV kd dp lf bm n=0)(hb cb:Nat)(bits c:Int)(w:World)(hh:HasH hb cb bits c w)(hB:0≤bits∧bits≤256)
  (hc : -4611686018427387904≤c∧c≤4611686018427387904) (hK:HasK KK w) (hs:RdD w (.slice av n cv) n sib) :
  Calls Tryz.prog 86 #[.pointer (some ⟨hb,0,none⟩),.agg (zAB kd dp lf bm (.slice av n cv))] w
   fun e w'=>∃g,e=.returned (.tuple #[.slice (some ⟨g,0,none⟩) dp dp,.int .i64 0])∧w.heap.size≤g∧w'.heap[g]?=some (.cells (kv (expF (zBE KK bits [3]) dp (setB bm) sib)) 38 (0,0))∧w.grownBy w' (some cb)∧HasH hb cb bits (c+1) w':=by
 have HH:=Lib.hid hh;have HKK:=Lib.hid hK;obtain⟨hd0,hd1,hlast,hlen⟩:=check_ok hck;have HC:=Lib.hid (fun wx=>Check_calls kd dp lf bm av n cv hl hk wx);rw[hck] at HC;have HS:Hid ((zAB kd dp lf bm (.slice av n cv)).size=99):=zAO hl hk.len;have H1:Hid ((zAB kd dp lf bm (.slice av n cv))[1]?=some (.int .i64 dp)):=zFG;have H98:Hid ((zAB kd dp lf bm (.slice av n cv))[98]?=some (.slice av n cv)):=zCX hl hk.len;have HBm:=Lib.hid (proofCells_bm (kd:=kd) (dp:=dp) (s:=.slice av n cv) hl hk.len);have HD:=Lib.hid (fun wx h1 h2=>DigestNil_calls KK hb cb bits c wx h1 hB hc h2);have HE:=Lib.hid (zBG KK bits [3]);have HLi:=Lib.hid (fun wx=>List_calls bm hk wx);have hn:Hid (n=(setB bm).length):=by unfold Hid;rw[←hlen,lenN_eq hk]
 have Hset:Hid (∀x∈setB bm,x<dp):=fun x hx=>by have:=setB_le_last hx;omega
 have HRd:=Lib.hid hs;clear hh hK hk hck hs hB hc hlast hlen;generalize zAB kd dp lf bm (.slice av n cv)=pc at *;generalize zBE KK bits [3]=E at *;obtain⟨dP,hdP,haP⟩:=zGE;have st:=St.init w;go_enter Tryz.func86,Tryz.ntmps86;go_upto_region 4 with (first
  |(refine zAD st rfl 43 _ rfl pc rfl ?_;intro b3 w1 st1;clear st)
  |(refine zAC rfl 43 _ rfl b3 rfl _ hdP haP _ _ (st1.at (i:=0) rfl) (zAQ HS.out) ?_)
  |(go_at_call 32;refine(HC.out _).mono ?_;rintro e w2 ⟨rfl,hbel⟩;have st2:=St.call st1 hbel;clear hbel st1;have st3:=StH.init HH.out st2))
 go_cut [7] from 15 to 20 (fun s7 wx=>∃g b5,s7=.slice (some ⟨g,0,none⟩) dp dp∧StH w cb (c+1) [(g,kv (repL E dp),38),(b5,kv E,38),(b3,pc,43)] wx)
 case first =>
  have q:∀wx:World,wx.cell? ⟨b3,1,none⟩=some (Value.int .i64 dp)→wx.cell? ⟨b3,1,none⟩=some (Value.int .i64 dp):=fun _ h=>h
  refine Mix2.wp_region_mix (J:=fun wx=>wx.cell? ⟨b3,1,none⟩=some (Value.int .i64 dp)) 6 (StH w cb c [(b3,pc,43)]) zBL (by kernel_rfl) st3.drew ?_;intro F inv;refine Mix2.good_batch (f:=3) F St.up (fun wx h=>(h.cell (i:=0) rfl 1).trans H1.out) [0,3,4] _ _ inv (by kernel_rfl) ?_;clear inv st3 st2
  iterate 3
   (refine Mix.wpUp_cons rfl (fun K hK=>?_);go_simp;apply zAU;· (intro wx hw;have q1:=q wx hw;go_simp;(try go_ints);(try go_simp);(try (rw[if_pos (by omega)]));(try go_simp);(first | done | rfl))
    refine hK _ ?_;clear hK K)
  refine Mix.wpUp_nil ?_;intro inv;refine Mix2.good_one (i:=1) (f:=2) (by kernel_rfl) inv (fun w5 st5=>?_);clear inv q;refine zAT rfl rfl 43 #[.pointer (some ⟨hb,0,none⟩),.pointer none] (by go_simp) ?_;refine(HD.out _ (StH.has st5 HH.out) (StH.hasK st5 HH.out HKK.out)).mono ?_;rintro e w6 ⟨rfl,hg6,hh6⟩;refine⟨_,rfl,StH w cb (c+1) [(b3,pc,43)],St.up,StH.sum st5 HH.out hg6 hh6,fun wx h=>(h.cell (i:=0) rfl 1).trans H1.out,fun inv=>?_⟩;clear st5 hg6 hh6;refine Mix2.good_one (i:=2) (f:=1) (by kernel_rfl) inv (fun w7 st7=>?_);clear inv;simp only[Act.put,List.getElem_toArray,List.getElem_cons_succ,List.getElem_cons_zero,List.setIfInBounds_toArray,List.set_cons_succ,List.set_cons_zero];refine zBQ st7 rfl rfl 41 1 _ rfl 38 zFO _ 32 zCG zBV (by decide) (by decide) [(0,.agg (kv E))] (by simp[Act.eval];done) _ (fillD E HE.out.len) (fun b5 w8 st8 hb8=>?_);refine⟨StH w cb (c+1) [(b5,kv E,38),(b3,pc,43)],St.up,st8,fun wx h=>(h.cell (i:=1) rfl 1).trans H1.out,fun inv=>?_⟩;clear st7 st8 hb8;refine Mix2.good_one (i:=5) (f:=0) (by kernel_rfl) inv (fun w9 st9=>?_);clear inv;refine zAT rfl rfl 133 #[.slice (some ⟨b5,0,none⟩) 1 1,.int .i64 dp] (by go_simp) ?_
  refine(Repeat_calls E HE.out.len dp (by omega) b5 _ w9 (st9.at (i:=0) rfl)).mono ?_;rintro e w10 ⟨g,rfl,hg10,hrow10,hbel10⟩;refine⟨_,rfl,StH w cb (c+1) [(g,kv (repL E dp),38),(b5,kv E,38),(b3,pc,43)],St.up,St.callNew st9 hbel10 hg10 hrow10,fun wx h=>(h.cell (i:=2) rfl 1).trans H1.out,fun inv=>?_⟩;clear st9 hg10 hrow10 hbel10 inv F;refine⟨by kernel_rfl,fun w11 st11=>?_⟩;simp only[List.drop_succ_cons,List.drop_zero,Act.put,List.getElem_toArray,List.getElem_cons_succ,List.getElem_cons_zero,List.setIfInBounds_toArray,List.set_cons_succ,List.set_cons_zero];go_wp2
  go_meet
  exact⟨g,b5,rfl,st11⟩
 case rest =>
 obtain⟨g,b5,rfl,st4⟩:=hcut;clear st3 st2;have HRd0:=Lib.hid (fun wx (h:w.grownBy wx (some cb))=>HRd.out.turn HH.out.c h)
 go_wp2_with (first
  |(refine zAP rfl 36 _ rfl b3 66 32 rfl zEY _ _ _ (st4.at (i:=2) rfl) zDH (by rw[HS.out];simp) _ HBm.out ?_)
  |(go_at_call 134;refine(HLi.out _).mono ?_;rintro e w6 ⟨v6,rfl,hrd6,hbel6,hob6⟩;have st6:=St.call st4 hbel6;have hg6:∀k,v6.ownBlock=some k→g<k:=(fun k h=>Nat.lt_of_lt_of_le (zAG (st4.at (i:=0) rfl)) (hob6 k h));clear hbel6 st4 hob6;obtain⟨a6,c6,rfl,_⟩:=hrd6.open2))
 have Hlen2:Hid ((setI bm).length=n):=by unfold Hid setI;rw[List.length_map,hn.out]
 rw[Hlen2.out] at hrd6 hg6 ⊢
 go_loopw [25] (fun i wr=>∃k:Nat,k≤n∧i=.int .i64 (k:Nat)∧StH w cb (c+1) [(g,kv (expF E dp ((setB bm).take k) sib),38),(b5,kv E,38),(b3,pc,43)] wr∧Rd wr (.slice a6 n c6) (setI bm)) (fun i _=>n - (intOf i).toNat)
 case atStart=>exact⟨0,by omega,rfl,st6,hrd6⟩
 case round =>
  obtain⟨k,hkn,rfl,st7,hrd7⟩:=hrel;clear st6 hrd6
  by_cases hlt:k<n
  ·have hlt':((k:Nat):Int)<(n:Nat):=by omega
   have hk0:(0:Int)≤(k:Nat):=by omega
   obtain⟨d,hd⟩:∃d,(setB bm)[k]?=some d:=⟨_,List.getElem?_eq_getElem (by have:=hn.out;omega)⟩
   have hdm:d<dp:=Hset.out d (List.mem_of_getElem? hd);have hdm':((d:Nat):Int)<(dp:Nat):=by omega
   have hd0':(0:Int)≤(d:Nat):=by omega
   have hsnoc:(setB bm).take (k+1)=(setB bm).take k++[d]:=by
    rw[List.take_add_one,hd];rfl
   have htl:((setB bm).take k).length=k:=by rw[List.length_take];have:=hn.out;omega
   obtain⟨b',off',rfl,hcL⟩:∃b' off',a6=some ⟨b',off',none⟩∧wr.cell? ⟨b',off'+k,none⟩=some (.int .i64 (d:Nat)):=by
    rcases hrd7.2 with ⟨h0,_⟩ | ⟨b',off',cap,he,hcc⟩
    ·have hlen2:=Hlen2.out;rw[h0] at hlen2;simp at hlen2;omega
    ·injection he with he1 _ _
     refine⟨b',off',he1,?_⟩;rw[hcc k (by omega)];unfold setI;rw[List.getD_eq_getElem?_getD,List.getElem?_map,hd];rfl
   have hrdS:=HRd0.out wr (StH.grown st7);obtain⟨bs,os,rfl,hcS⟩:∃bs os,av=some ⟨bs,os,none⟩∧∀i,i<32*n→wr.cell? ⟨bs,os+i,none⟩=some (.int .u8 (sib.getD i 0:Nat)):=by
    rcases hrdS.2.2 with ⟨h0,_⟩ | ⟨bs,os,cap,he,hcc⟩
    ·omega
    ·injection he with he1 _ _
     exact⟨bs,os,he1,hcc⟩
   have Hsib:Hid (((sib.drop (32*k)).take 32).length=32):=by unfold Hid;have:=hrdS.1;simp;omega
   have HcS:Hid (∀j,j<((sib.drop (32*k)).take 32).length→wr.cell? ⟨bs,os+k*32+j,none⟩=some (.int .u8 (((sib.drop (32*k)).take 32).getD j 0:Nat))):=fun j hj=>by
    rw[Hsib.out] at hj;rw[show os+k*32+j=os+(32*k+j) by omega,hcS _ (by omega)];simp[List.getD_eq_getElem?_getD,hj,List.getElem?_drop]
   have hc98:=(st7.cell (i:=2) rfl 98).trans H98.out;have HX:Hid ((expF E dp ((setB bm).take k) sib).length=32*dp):=expF_len E HE.out.len dp sib k _ htl (fun x hx=>Hset.out x (List.mem_of_mem_take hx)) (by have:=hrdS.1;omega);have HXk:Hid (zCT (kv (expF E dp ((setB bm).take k) sib)) (d*32) (.agg (kv ((sib.drop (32*k)).take 32)))=kv (expF E dp ((setB bm).take (k+1)) sib)):=by
    unfold Hid;rw[hsnoc,expF_snoc,htl,kv_put,Hsib.out];unfold setD;rw[show d*32=32*d by omega]
   clear hcS hrdS hsnoc htl hd;generalize expF E dp ((setB bm).take k) sib=X at *;generalize hX2:expF E dp ((setB bm).take (k+1)) sib=X2 at *;have hX2:=Lib.hid hX2;have hw1:wrap64 ((k:Nat)+1:Int)=((k+1:Nat):Int):=by rw[wrap64_ok _ (by have:=hrd7.1;unfold maxLen at this;have h2:=Hlen2.out;omega)];omega
   generalize (sib.drop (32*k)).take 32=sk at *
   go_wp2_with (first
    |(refine wpList_loadB rfl 38 _ rfl bs (os+k*32) 32 rfl zFZ zBV sk (by rw[Hsib.out];exact Nat.le_refl _) HcS.out ?_;rw[List.take_of_length_le (Nat.le_of_eq Hsib.out)])
    |(refine zAZ st7 rfl 38 _ _ rfl 0 g (d*32) rfl (.agg (kv sk)) rfl _ _ rfl (zCA Hsib.out) (by show d*32+(kv sk).size≤(kv X).size;rw[zAF,zAF,Hsib.out,HX.out];omega) (zBJ _) _ HXk.out _ rfl ?_;intro w8 st8 hg8;clear st7))
   refine⟨⟨k+1,by omega,by rw[hw1],by rw[hX2.out];exact st8,?_⟩,?_⟩
   ·refine⟨hrd7.1,?_⟩
    rcases hrd7.2 with ⟨h0,_⟩ | ⟨b2,off2,cap,he,hcc⟩
    ·have hlen2:=Hlen2.out;rw[h0] at hlen2;simp at hlen2;omega
    ·refine .inr ⟨b2,off2,cap,he,fun i hi=>?_⟩
     have h1:=hcc i hi;refine(World.cell?_of_block (w:=wr) (hg8.block b2 (zAS h1) ?_)).trans h1;intro e;have e1:b2=g:=Option.some.inj e;injection he with he1 _ _;have h2:=hg6 b2 (by rw[he1];rfl);omega
   ·rw[hw1];simp[intOf];omega
  ·obtain rfl:k=n:=by omega
   go_wp2;go_ret2;rw[List.take_of_length_le (Nat.le_of_eq hn.out.symm)] at st7;exact⟨g,rfl,st7.above (i:=0) rfl,st7.at (i:=0) rfl,StH.grown st7,StH.has st7 HH.out⟩
end
end Go.Proofs.YtlcngapphloafaaGreatDoor
