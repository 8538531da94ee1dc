/- Parts of the proof that are used by the claim: CompareT, RCompare, RList3, RRoot, RGet, RUpd, RApply, RCheck. No condition is added here. -/
import Derived.Test.YtlcngapphloafaaGreatDoorPk22
import Derived.Lib.Bytealg
namespace Go.Proofs.YtlcngapphloafaaGreatDoor
section
open Go Go.RowKit
def BytesAt(w:World)(b off:Nat)(l:List Nat):Prop:=∀j,j<l.length→w.cell? ⟨b,off+j,none⟩=some (.int .u8 (l.getD j 0:Nat))
theorem bytesAt_row{w:World}{b:Nat}{l:List Nat}{t:TypeId}{fr:Nat×Nat}(h:w.heap[b]?=some (.cells (kv l) t fr)):BytesAt w b 0 l:=by
 intro j hj;rw[Nat.zero_add];simp only[World.cell?,h,Option.isSome_none,Bool.false_eq_true,if_false];exact zFX l j hj
theorem run_loadBytes{P:Program}(w:World)(b:Nat):∀(l:List Nat)(off:Nat) (acc:ByteArray),BytesAt w b off l →
  (Extern.Bytes.loadBytes ⟨b,off,none⟩ l.length acc).run P w=.ok ⟨(acc.data.toList++l.map fun n=>n.toUInt8).toArray⟩ w
 |[],off,acc,_=>by simp[Extern.Bytes.loadBytes]
 |x::l,off,acc,h=>by
  have h0:=h 0 (by simp);simp only[Nat.add_zero,List.getD_cons_zero] at h0;have hadd:(⟨b,off,none⟩:Addr).add 1=⟨b,off+1,none⟩:=rfl;have ih:=run_loadBytes (P:=P) w b l (off+1) (acc.push ((x:Int).toNat.toUInt8)) (fun j hj=>by
   have:=h (j+1) (by simpa using hj);rw[List.getD_cons_succ] at this;rw[show off+1+j=off+(j+1) by omega];exact this)
  simp only[List.length_cons,Extern.Bytes.loadBytes,Sem.run_bind,run_load,h0,Result.andThen_ok,hadd,ih]
  congr 2
  simp[ByteArray.push]
theorem compareBytes_eq:∀(a b:List Nat),a.length=b.length→(∀x∈a,x<256)→(∀x∈b,x<256) →
  Lib.compareBytes (a.map fun n=>n.toUInt8) (b.map fun n=>n.toUInt8)=zDV a b
 |[],[],_,_,_=>rfl
 |[],_::_,h,_,_=>by simp at h
 |_::_,[],h,_,_=>by simp at h
 |x::a,y::b,h,ha,hb=>by
  have hx:=ha x (by simp);have hy:=hb y (by simp);have ih:=compareBytes_eq a b (by simpa using h) (fun z hz=>ha z (by simp[hz])) (fun z hz=>hb z (by simp[hz]));have lt:∀p q:Nat,p<256→q<256→(p.toUInt8<q.toUInt8↔p<q):=fun p q hp hq=>by
   rw[UInt8.lt_iff_toNat_lt];simp only[Nat.toUInt8,UInt8.toNat_ofNat',Nat.reducePow];rw[Nat.mod_eq_of_lt hp,Nat.mod_eq_of_lt hq]
  simp only[List.map_cons,Lib.compareBytes,zDV,lt x y hx hy,lt y x hy hx,ih]
theorem zIZ{P:Program}(w:World)(b1 b2 o1 o2 c1 c2:Nat)(x y:List Nat)(hx:BytesAt w b1 o1 x)(hy:BytesAt w b2 o2 y)(hl:x.length=y.length)(lx:∀z∈x,z<256)(ly:∀z∈y,z<256) :
  (Extern.BytealgCompare.compare #[.slice (some ⟨b1,o1,none⟩) x.length c1,.slice (some ⟨b2,o2,none⟩) y.length c2]).run P w=.ok (.int .i64 (zDV x y)) w:=by
 change Sem.run P (do pure (goInt (Extern.BytealgCompare.cmp (←Extern.Bytes.bytesOf (.slice (some ⟨b1,o1,none⟩) x.length c1)) (←Extern.Bytes.bytesOf (.slice (some ⟨b2,o2,none⟩) y.length c2))))) w=_
 simp only[Extern.Bytes.bytesOf,Sem.run_bind,run_loadBytes w b1 x o1 _ hx,run_loadBytes w b2 y o2 _ hy,Result.andThen_ok,Sem.run_pure,Lib.cmp_eq];exact congrArg (fun c=>Result.ok (Value.int .i64 c) w) (compareBytes_eq x y hl lx ly)
theorem bytesCompare_calls(w:World)(b1 b2 c1 c2:Nat)(x y:List Nat)(hx:w.heap[b1]?=some (.cells (kv x) 37 (0,0)))(hy:w.heap[b2]?=some (.cells (kv y) 37 (0,0)))(kx:Key x)(ky:Key y) :
  Calls Tryz.prog 176 #[.slice (some ⟨b1,0,none⟩) 32 c1,.slice (some ⟨b2,0,none⟩) 32 c2] w fun e w'=>e=.returned (.int .i64 (zDV x y))∧Below w.heap.size w w':=by
 have h:(callFunc 204 #[.slice (some ⟨b1,0,none⟩) 32 c1,.slice (some ⟨b2,0,none⟩) 32 c2]).run Tryz.prog w=.ok (.value (.int .i64 (zDV x y))) w:=by
  rw[run_callFunc_extern Tryz.func204 (by kernel_rfl) (by kernel_rfl) (by kernel_rfl) (e:=Extern.BytealgCompare.compare) (by kernel_rfl)]
  have:=zIZ (P:=Tryz.prog) w b1 b2 0 0 c1 c2 x y (bytesAt_row hx) (bytesAt_row hy) (by rw[kx.len,ky.len]) kx.lt ky.lt;rw[kx.len,ky.len] at this;rw[this];rfl
 clear hx hy;go_enter Tryz.func176,Tryz.ntmps176;go_wp2;go_ret;exact⟨rfl,Below.refl _ _⟩
theorem Compare_calls(a b:List Nat)(ha:Key a)(hb:Key b)(w:World) :
  Calls Tryz.prog 154 #[.agg (kv a),.agg (kv b)] w fun e w'=>e=.returned (.int .i64 (zDV a b))∧Below w.heap.size w w':=by
 have HA:=Lib.hid ha;have HB:=Lib.hid hb;clear ha hb;have st:=St.init w;go_enter Tryz.func154,Tryz.ntmps154
 go_wp2_with (first | (refine zAD (by assumption) rfl 37 _ rfl _ rfl ?_;intro b1 w1 st1;clear st) | (refine zAD (by assumption) rfl 37 _ rfl _ rfl ?_;intro b2 w2 st2;clear st1))
 refine zBH 4 st2 zBL (by kernel_rfl) ?_;intro I hI hI';simp only[List.take_succ_cons,List.take_zero,List.drop_succ_cons,List.drop_zero]
 iterate 2
  (refine Inv.wpInv_step (fun K hK=>?_);go_simp;apply zAL;· (intro wx hw;go_simp;(try go_ints);(try go_simp);(try (rw[if_pos (by omega)]));(try go_simp);(first | done | rfl))
   refine hK _ ?_;clear hK K)
 (refine Inv.wpInv_step (fun K hK=>?_);go_simp;refine zDF hI hI' 176 #[.slice (some ⟨b1,0,none⟩) 32 32,.slice (some ⟨b2,0,none⟩) 32 32] ?_ (fun wx stx=>bytesCompare_calls wx b1 b2 32 32 a b (stx.at (i:=1) rfl) (stx.at (i:=0) rfl) HA.out HB.out) ?_;· (intro wx hw;go_simp)
  refine hK _ ?_;clear hK K)
 iterate 1
  (refine Inv.wpInv_step (fun K hK=>?_);go_simp;apply zAL;· (intro wx hw;go_simp;(try go_ints);(try go_simp);(try (rw[if_pos (by omega)]));(try go_simp);(first | done | rfl))
   refine hK _ ?_;clear hK K)
 refine Inv.wpInv_nil ?_;intro w4 st4;clear st2 hI hI';go_wp2;go_ret;exact⟨rfl,st4.below⟩
end
section
set_option maxHeartbeats 1000000
open Go Go.RowKit
theorem RefCompare_calls(a b:List Nat)(ha:Key a)(hb:Key b)(w:World) :
  Calls Tryz.prog 54 #[.agg (kv a),.agg (kv b)] w fun e w'=>e=.returned (.int .i64 (zDV a b))∧Below w.heap.size w w':=by
 have hlen:=Lib.hid ha.len;have hlenb:=Lib.hid hb.len;clear ha hb;have st:=St.init w;go_enter Tryz.func54,Tryz.ntmps54
 go_wp2_with (first | (refine zAD (by assumption) rfl 37 _ rfl _ rfl ?_;intro b1 w1 st1;clear st) | (refine zAD (by assumption) rfl 37 _ rfl _ rfl ?_;intro b2 w2 st2;clear st1))
 go_loopw [5] (fun i wr=>∃k:Int,0≤k∧k≤32∧i=.int .i64 k∧Hid (∀j<k.toNat,a.getD j 0=b.getD j 0)∧St w.heap.size w [(b2,kv b,37),(b1,kv a,37)] wr) (fun i _=>(32 - intOf i).toNat)
 case atStart=>exact⟨0,by omega,by omega,rfl,by intro j hj;simp at hj,st2⟩
 case round =>
  obtain⟨k,k0,k1,rfl,hp,st3⟩:=hrel;clear st2
  by_cases hlt:k<32
  ·have hx:(kv a)[k.toNat]?=some (.int .u8 (a.getD k.toNat 0:Nat)):=zFX a _ (by rw[hlen.out];omega)
   have hy:(kv b)[k.toNat]?=some (.int .u8 (b.getD k.toNat 0:Nat)):=zFX b _ (by rw[hlenb.out];omega);have Hat:Hid (a.getD k.toNat 0≠b.getD k.toNat 0→zDV a b=if a.getD k.toNat 0<b.getD k.toNat 0 then -1 else 1) :=
    cmpL_at a b k.toNat (by rw[hlen.out,hlenb.out]) (by rw[hlen.out];omega) (fun j hj=>hp.out j hj)
   have Hnx:Hid (a.getD k.toNat 0=b.getD k.toNat 0→∀j<(k+1).toNat,a.getD j 0=b.getD j 0):=fun h j hj=>by
    rcases Nat.lt_or_ge j k.toNat with h1 | h1
    ·exact hp.out j h1
    ·obtain rfl:j=k.toNat:=by omega
     exact h
   clear hp;generalize a.getD k.toNat 0=x at *;generalize b.getD k.toNat 0=y at *
   by_cases h1:x<y
   ·have HC:Hid (zDV a b = -1):=by unfold Hid;rw[Hat.out (by omega),if_pos h1]
    have h1':(x:Int)<(y:Int):=by omega
    clear Hat Hnx h1;generalize (x:Int)=X at *;generalize (y:Int)=Y at *;go_wp2;refine zBH 7 st3 zBL (by kernel_rfl) ?_;intro I hI hI';have q:∀wx,I wx→wx.cell? ⟨b1,k.toNat,none⟩=some (.int .u8 X)∧wx.cell? ⟨b2,k.toNat,none⟩=some (.int .u8 Y):=fun wx hw=>⟨((hI wx hw).cell (i:=1) rfl _).trans hx,((hI wx hw).cell (i:=0) rfl _).trans hy⟩
    simp only[List.take_succ_cons,List.take_zero,List.drop_succ_cons,List.drop_zero]
    iterate 7
     (refine Inv.wpInv_step (fun K hK=>?_);go_simp;apply zAL;· (intro wx hw;have q1:=q wx hw;go_simp;(try go_ints);(try go_simp);(try (rw[if_pos (by omega)]));(try go_simp);(first | done | rfl))
      refine hK _ ?_;clear hK K)
    clear q hI hI' hx hy;refine Inv.wpInv_nil ?_;intro w4 st4;clear st3;go_wp2;go_ret;exact⟨ret_int HC.out.symm,st4.below⟩
   ·by_cases h2:y<x
    ·have HC:Hid (zDV a b=1):=by unfold Hid;rw[Hat.out (by omega),if_neg h1]
     have h1':¬(x:Int)<(y:Int):=by omega
     have h2':(y:Int)<(x:Int):=by omega
     clear Hat Hnx h1 h2;generalize (x:Int)=X at *;generalize (y:Int)=Y at *;go_wp2;refine zBH 7 st3 zBL (by kernel_rfl) ?_;intro I hI hI';have q:∀wx,I wx→wx.cell? ⟨b1,k.toNat,none⟩=some (.int .u8 X)∧wx.cell? ⟨b2,k.toNat,none⟩=some (.int .u8 Y):=fun wx hw=>⟨((hI wx hw).cell (i:=1) rfl _).trans hx,((hI wx hw).cell (i:=0) rfl _).trans hy⟩
     simp only[List.take_succ_cons,List.take_zero,List.drop_succ_cons,List.drop_zero]
     iterate 7
      (refine Inv.wpInv_step (fun K hK=>?_);go_simp;apply zAL;· (intro wx hw;have q1:=q wx hw;go_simp;(try go_ints);(try go_simp);(try (rw[if_pos (by omega)]));(try go_simp);(first | done | rfl))
       refine hK _ ?_;clear hK K)
     clear q hI hI';refine Inv.wpInv_nil ?_;intro w4 st4;clear st3;go_wp2;refine zBH 7 st4 zBL (by kernel_rfl) ?_;intro I hI hI';have q:∀wx,I wx→wx.cell? ⟨b1,k.toNat,none⟩=some (.int .u8 X)∧wx.cell? ⟨b2,k.toNat,none⟩=some (.int .u8 Y):=fun wx hw=>⟨((hI wx hw).cell (i:=1) rfl _).trans hx,((hI wx hw).cell (i:=0) rfl _).trans hy⟩
     simp only[List.take_succ_cons,List.take_zero,List.drop_succ_cons,List.drop_zero]
     iterate 7
      (refine Inv.wpInv_step (fun K hK=>?_);go_simp;apply zAL;· (intro wx hw;have q1:=q wx hw;go_simp;(try go_ints);(try go_simp);(try (rw[if_pos (by omega)]));(try go_simp);(first | done | rfl))
       refine hK _ ?_;clear hK K)
     clear q hI hI' hx hy;refine Inv.wpInv_nil ?_;intro w5 st5;clear st4;go_wp2;go_ret;exact⟨ret_int HC.out.symm,st5.below⟩
    ·obtain rfl:x=y:=by omega
     have HN:=Lib.hid (Hnx.out rfl);have h1':¬(x:Int)<(x:Int):=by omega
     clear Hat Hnx h1 h2;generalize (x:Int)=X at *;go_wp2;refine zBH 7 st3 zBL (by kernel_rfl) ?_;intro I hI hI';have q:∀wx,I wx→wx.cell? ⟨b1,k.toNat,none⟩=some (.int .u8 X)∧wx.cell? ⟨b2,k.toNat,none⟩=some (.int .u8 X):=fun wx hw=>⟨((hI wx hw).cell (i:=1) rfl _).trans hx,((hI wx hw).cell (i:=0) rfl _).trans hy⟩
     simp only[List.take_succ_cons,List.take_zero,List.drop_succ_cons,List.drop_zero]
     iterate 7
      (refine Inv.wpInv_step (fun K hK=>?_);go_simp;apply zAL;· (intro wx hw;have q1:=q wx hw;go_simp;(try go_ints);(try go_simp);(try (rw[if_pos (by omega)]));(try go_simp);(first | done | rfl))
       refine hK _ ?_;clear hK K)
     clear q hI hI';refine Inv.wpInv_nil ?_;intro w4 st4;clear st3;go_wp2;refine zBH 7 st4 zBL (by kernel_rfl) ?_;intro I hI hI';have q:∀wx,I wx→wx.cell? ⟨b1,k.toNat,none⟩=some (.int .u8 X)∧wx.cell? ⟨b2,k.toNat,none⟩=some (.int .u8 X):=fun wx hw=>⟨((hI wx hw).cell (i:=1) rfl _).trans hx,((hI wx hw).cell (i:=0) rfl _).trans hy⟩
     simp only[List.take_succ_cons,List.take_zero,List.drop_succ_cons,List.drop_zero]
     iterate 7
      (refine Inv.wpInv_step (fun K hK=>?_);go_simp;apply zAL;· (intro wx hw;have q1:=q wx hw;go_simp;(try go_ints);(try go_simp);(try (rw[if_pos (by omega)]));(try go_simp);(first | done | rfl))
       refine hK _ ?_;clear hK K)
     clear q hI hI' hx hy;refine Inv.wpInv_nil ?_;intro w5 st5;clear st4;go_wp2;go_roundw
     case rel=>exact⟨k+1,by omega,by omega,rfl,HN.out,st5⟩
     case measure=>simp[intOf];omega
  ·have HC:Hid (zDV a b=0):=cmpL_same a b (by rw[hlen.out,hlenb.out]) fun j hj=>hp.out j (by rw[hlen.out] at hj;omega)
   clear hp;go_wp2;go_ret;exact⟨ret_int HC.out.symm,st3.below⟩
end
section
set_option maxHeartbeats 4000000
open Go Go.RowKit
attribute [local irreducible] Inv.wpInv Mix.wpUp
def insE(x:List Nat×Value):List (List Nat×Value)→List (List Nat×Value)
 |[]=>[x]
 |y::l=>if zDV x.1 y.1<0 then x::y::l else y::insE x l
def zGZ(x:List Nat×Value)(p:List (List Nat×Value)×Bool)(y:List Nat×Value):List (List Nat×Value)×Bool:=if p.2=false∧zDV x.1 y.1<0 then (p.1++[x,y],true) else (p.1++[y],p.2)
def foldE(x:List Nat×Value)(l:List (List Nat×Value)):List (List Nat×Value)×Bool:=l.foldl (zGZ x) ([],false)
theorem foldE_true(x:List Nat×Value):∀(l pre:List (List Nat×Value)),l.foldl (zGZ x) (pre,true)=(pre++l,true)
 |[],pre=>by simp
 |y::l,pre=>by
  rw[List.foldl_cons,show zGZ x (pre,true) y=(pre++[y],true) by simp[zGZ],foldE_true x l,List.append_assoc];rfl
theorem foldE_false(x:List Nat×Value):∀(l pre:List (List Nat×Value)),(if (l.foldl (zGZ x) (pre,false)).2 then (l.foldl (zGZ x) (pre,false)).1 else (l.foldl (zGZ x) (pre,false)).1++[x])=pre++insE x l
 |[],pre=>by simp[insE]
 |y::l,pre=>by
  rw[List.foldl_cons]
  by_cases h:zDV x.1 y.1<0
  ·rw[show zGZ x (pre,false) y=(pre++[x,y],true) by simp[zGZ,h],foldE_true,insE,if_pos h]
   simp
  ·rw[show zGZ x (pre,false) y=(pre++[y],false) by simp[zGZ,h],foldE_false x l,insE,if_neg h,List.append_assoc]
   rfl
theorem insE_eq(x:List Nat×Value)(l:List (List Nat×Value)):(if (foldE x l).2 then (foldE x l).1 else (foldE x l).1++[x])=insE x l:=foldE_false x l []
theorem foldE_succ(x:List Nat×Value)(l:List (List Nat×Value))(j:Nat)(hj:j<l.length):foldE x (l.take (j+1))=zGZ x (foldE x (l.take j)) l[j]:=by
 unfold foldE;rw[List.take_add_one,List.getElem?_eq_getElem hj,Option.toList_some,List.foldl_append];rfl
theorem foldE_len(x:List Nat×Value):∀(l pre:List (List Nat×Value)) (b:Bool),(l.foldl (zGZ x) (pre,b)).1.length≤pre.length+2*l.length
 |[],pre,b=>by simp
 |y::l,pre,b=>by
  rw[List.foldl_cons];have h:(zGZ x (pre,b) y).1.length≤pre.length+2:=by unfold zGZ;split<;>simp
  have h2:=foldE_len x l (zGZ x (pre,b) y).1 (zGZ x (pre,b) y).2;rw[List.length_cons];have h3:l.foldl (zGZ x) (zGZ x (pre,b) y)=l.foldl (zGZ x) ((zGZ x (pre,b) y).1,(zGZ x (pre,b) y).2):=rfl;rw[h3];omega
def putE(es:List (List Nat×Value))(k:List Nat)(s:Value):List (List Nat×Value):=insE (k,s) (es.filter fun e=>decide (e.1≠k))
theorem builtEnt(k:List Nat)(a:Option Addr)(n c:Nat)(h:k.length=32):Tryz.prog.built 52 (zBB 0 [.agg (kv k),.slice a n c])=some (zFS (k,.slice a n c)).toArray:=by
 have hsh:shapeOf Tryz.prog 52=some (33,[(0,32),(32,1)]):=by kernel_rfl
 rw[zGW hsh [.agg (kv k),.slice a n c] (by simp[consec,Value.cells,zAF,h]) (by simp[catV,Value.cells,zCJ,zAI,h])];simp[catV,Value.cells,zFS,←zCJ]
theorem insE_cells(x:List Nat×Value)(hx:(zFS x).length=33):∀l:List (List Nat×Value),(∀e∈l,Key e.1∧e.2.oneCell'=true)→∀e∈insE x l,(zFS e).length=33
 |[],_,e,he=>by
  rw[List.mem_singleton.1 (show e∈[x] from he)];exact hx
 |y::l,hl,e,he=>by
  unfold insE at he
  split at he
  ·rcases List.mem_cons.1 he with rfl | he
   ·exact hx
   ·exact zGO e (hl e he).1.len
  ·rcases List.mem_cons.1 he with rfl | he
   ·exact zGO e (hl e List.mem_cons_self).1.len
   ·exact insE_cells x hx l (fun e' he'=>hl e' (List.mem_cons_of_mem _ he')) e he
theorem own_ent{w:World}{base:Nat}{t:TypeId}{v:Value}{Y:List (List Nat×Value)}{e:List Nat×Value}(h:w.ownsRow base t 33 v (Y.length+1) (Y.flatMap zFS++(zFS e).toArray.toList)):w.ownsRow base t 33 v (Y++[e]).length ((Y++[e]).flatMap zFS):=by
 rw[List.length_append,List.length_singleton,List.flatMap_append]
 simpa using h
set_option maxRecDepth 20000 in
theorem PutR_es(es:List (List Nat×Value))(v:Value)(k:List Nat)(sa:Option Addr)(sn sc:Nat)(w:World)(hk:Key k)(hes:∀e∈es,Key e.1∧e.2.oneCell'=true)(hn:es.length≤10000)(hv:RdEs w v es) :
  Calls Tryz.prog 23 #[v,.agg (kv k),.slice sa sn sc] w fun e w'=>∃v',e=.returned v'∧RdEs w' v' (putE es k (.slice sa sn sc))∧Below w.heap.size w w':=by
 have HK:=Lib.hid hk;have HRm:=Lib.hid (fun wx (hb:Below w.heap.size w wx)=>RemoveR_es es v k wx hk.len (fun e he=>⟨(hes e he).1.len,(hes e he).2⟩) (by omega) (hv.call hb));have hrs:∀e∈es.filter (fun e=>decide (e.1≠k)),Key e.1∧e.2.oneCell'=true:=fun e he=>hes e (List.mem_filter.1 he).1
 have hrl:(es.filter fun e=>decide (e.1≠k)).length≤10000:=Nat.le_trans (List.length_filter_le _ _) hn;have HRs:=Lib.hid hrs;have HRl:=Lib.hid hrl;have HPe:Hid (putE es k (.slice sa sn sc)=insE (k,.slice sa sn sc) (es.filter fun e=>decide (e.1≠k))):=rfl;clear hv hes hk hn hrs hrl;generalize (es.filter fun e=>decide (e.1≠k))=rs at *;have st:=St.init w;go_enter Tryz.func23,Tryz.ntmps23;go_upto_region 5 with (first
  |(refine zAD st rfl 37 _ rfl _ rfl ?_;intro b4 w1 st1;clear st)
  |((with_reducible refine zBA 37 ?_);refine zAC rfl 37 _ rfl b4 rfl _ zBF rfl _ _ (st1.at (i:=0) rfl) (zAX HK.out.len) ?_)
  |(go_at_call 53;refine(HRm.out _ st1.below).mono ?_;rintro ev w2 ⟨vr,rfl,hown,hb2⟩;have st2:=st1.call hb2;clear st1 hb2))
 obtain⟨ar,cr,rfl⟩:=zDN hown;have hrd:RdEs w2 (.slice ar rs.length cr) rs:=RdG.own (fun e he=>zGO e (HRs.out e he).1.len) (by have:=HRl.out;omega) hown;have HRd:=Lib.hid hrd;have HB2:=Lib.hid st2.below;have hrow:=st2.at (i:=0) rfl;have HRow:=Lib.hid hrow;have hli:((rs.length:Nat):Int)≤10000:=by have:=HRl.out;omega
 have st3:=St.init w2;clear hown hrd hrow st2 HRm;obtain⟨x,hx⟩:∃x:List Nat×Value,x=(k,.slice sa sn sc):=⟨_,rfl⟩
 have HX:=Lib.hid hx;rw[←hx] at HPe;clear hx
 go_loopw [7,8,10] (fun out dn i wr=>∃j:Nat,j≤rs.length∧i=.int .i64 (j:Nat)∧dn=.bool (foldE x (rs.take j)).2∧wr.ownsRow w2.heap.size 52 33 out (foldE x (rs.take j)).1.length ((foldE x (rs.take j)).1.flatMap zFS)∧St w2.heap.size w2 [] wr) (fun _ _ i _=>((rs.length:Int) - intOf i).toNat)
 case atStart=>exact⟨0,Nat.zero_le _,rfl,rfl,World.ownsRow_nil _ _ _ _,st3⟩
 case round =>
  obtain⟨j,hj,rfl,rfl,hown,st4⟩:=hrel;obtain⟨a6,c6,rfl⟩:=zDN hown;clear st3
  by_cases hlt:j<rs.length
  ·have hji:((j:Nat):Int)<(rs.length:Nat):=by omega
   obtain⟨b,off,c',hva,_,Hat⟩:=HRd.out.at (by intro h;rw[h] at hlt;exact absurd hlt (Nat.not_lt_zero _));obtain⟨rfl,rfl⟩:ar=some ⟨b,off,none⟩∧cr=c':=by injection hva with h1 h2 h3;exact⟨h1,h3⟩
   obtain⟨hk1,hone⟩:=HRs.out rs[j] (List.getElem_mem _);have hat:Hid (∀w',Below w2.heap.size w2 w'→CellsAt w' b (off+j*33) (zFS rs[j])):=fun w' hb=>Hat.out w' hb j hlt
   have hsn:=foldE_succ x rs j hlt;have hlen:Hid ((foldE x (rs.take j)).1.length≤30000):=by
    have h1:=foldE_len x (rs.take j) [] false;have h2:=HRl.out;unfold Hid foldE;rw[List.length_take] at h1;simp only[List.length_nil] at h1;omega
   generalize rs[j]=e at *;generalize foldE x (rs.take j)=P at *;obtain⟨Y,B⟩:=P;simp only at hown hlen ⊢;have hkc:Hid (∀w',Below w2.heap.size w2 w'→CellsAt w' b (off+j*33) (zAJ e.1)):=fun w' hb=>by
    have h:=(hat.out w' hb).sub 0 32
    rwa [entc_key e hk1.len,Nat.add_zero] at h
   have HSn:=Lib.hid hsn;have HK1:=Lib.hid hk1;have HOne:=Lib.hid hone;have HEn:=Lib.hid (zGO e hk1.len);have HNx:Hid (∀(Z:List (List Nat×Value)) (D:Bool) (w':World) (v':Value),zGZ x (Y,B) e=(Z,D)→w'.ownsRow w2.heap.size 52 33 v' Z.length (Z.flatMap zFS)→(foldE x (rs.take (j+1))).2=D∧w'.ownsRow w2.heap.size 52 33 v' (foldE x (rs.take (j+1))).1.length ((foldE x (rs.take (j+1))).1.flatMap zFS)):=fun Z D w' v' h1 h2=>by
    rw[HSn.out,h1];exact⟨rfl,h2⟩
   clear hsn hva Hat hk1 hone;have hb4:=st4.below
   cases B
   ·have HCmp:=Lib.hid (fun wx=>RefCompare_calls k e.1 HK.out HK1.out wx)
    have hlt4:=zAG HRow.out;have HXn:Hid ((zFS x).length=33):=by unfold Hid;rw[HX.out];exact zGO _ HK.out.len
    have HXo:Hid (∀u∈(zFS x).toArray.toList,u.oneCell'=true):=by unfold Hid;rw[HX.out];exact entc_one _ rfl
    have HBt:Hid (Tryz.prog.built 52 (zBB 0 [.agg (kv k),.slice sa sn sc])=some (zFS x).toArray):=by unfold Hid;rw[HX.out];exact builtEnt k sa sn sc HK.out.len
    have str:=St.init wr;go_upto_region 7 with (first | (fail "x"))
    refine zBH 12 str zBL (by kernel_rfl) ?_;intro I hI hI';simp only[List.take_succ_cons,List.take_zero,List.drop_succ_cons,List.drop_zero]
    iterate 3
     (refine Inv.wpInv_step (fun K hK=>?_);go_simp;apply zAL;· (intro wx hw;go_simp;(try go_ints);(try go_simp);(try (rw[if_pos (by omega)]));(try go_simp);(first | done | rfl))
      refine hK _ ?_;clear hK K)
    (refine Inv.wpInv_step (fun K hK=>?_);go_simp;refine zDP 37 _ rfl b4 rfl _ zBF rfl _ _ (fun wx hw=>((st4.below.trans ((hI wx hw).below.mono st4.below.size)).block b4 hlt4).trans HRow.out) (zAX HK.out.len) ?_
     refine hK _ ?_;clear hK K)
    iterate 4
     (refine Inv.wpInv_step (fun K hK=>?_);go_simp;apply zAL;· (intro wx hw;go_simp;(try go_ints);(try go_simp);(try (rw[if_pos (by omega)]));(try go_simp);(first | done | rfl))
      refine hK _ ?_;clear hK K)
    (refine Inv.wpInv_step (fun K hK=>?_);go_simp;refine zHD 37 _ rfl b (off+j*33) rfl zBN (zAJ e.1) (by rw[zAI,HK1.out.len];exact zBC) (fun wx hw=>hkc.out wx (st4.below.trans ((hI wx hw).below.mono st4.below.size))) ?_;rw[zBK]
     refine hK _ ?_;clear hK K)
    (refine Inv.wpInv_step (fun K hK=>?_);go_simp;refine zDF hI hI' 54 #[.agg (kv k),.agg (kv e.1)] ?_ (fun wx stx=>HCmp.out wx) ?_;· (intro wx hw;go_simp)
     refine hK _ ?_;clear hK K)
    iterate 2
     (refine Inv.wpInv_step (fun K hK=>?_);go_simp;apply zAL;· (intro wx hw;go_simp;(try go_ints);(try go_simp);(try (rw[if_pos (by omega)]));(try go_simp);(first | done | rfl))
      refine hK _ ?_;clear hK K)
    clear hI hI';refine Inv.wpInv_nil ?_;intro w5 st5;have st6:=st4.call st5.below;have hown6:=zAY hown st5.below;have hb6:=st6.below;clear st4 hown st5 str hb4
    by_cases hcm:zDV k e.1<0
    ·have Hst:Hid (zGZ x (Y,false) e=(Y++[x,e],true)):=by unfold Hid zGZ;rw[if_pos ⟨rfl,by rw[HX.out];exact hcm⟩]
     have HYx:Hid (Y.length+1≤30001):=by have:=hlen.out;unfold Hid;omega
     generalize zDV k e.1=C at *
     go_wp2_with (first
      |((with_reducible refine zBA 37 ?_);refine zAC rfl 37 _ rfl b4 rfl _ zBF rfl _ _ ((hb6.block b4 hlt4).trans HRow.out) (zAX HK.out.len) ?_)
      |((with_reducible refine zEG 52 ?_);refine zAM rfl 52 _ rfl (zBB 0 [.agg (kv k),.slice sa sn sc]) ?_ _ HBt.out ?_;(·first | (simp[Act.eval,zBB];done) | (simp[Act.eval,Act.put,zBB];done)))
      |((with_reducible refine zBP 54 ?_);refine zAR st6 rfl 54 1 _ rfl 52 zDK _ 33 zGX zDA (by decide) (by decide) [(0,.agg (zFS x).toArray)] ?_ _ (fillOne 33 (by rw[List.size_toArray,HXn.out])) ?_;(·first | (simp[Act.eval];done) | (simp[Act.eval,Act.put];done) | rfl);intro b7 w7 st7 hb7;have hown7:=zAY hown6 hb7;clear st6 hown6)
      |(at_builtin;refine zCL (base:=w2.heap.size) st7.drop (fun q hq=>(List.not_mem_nil hq).elim) (Nat.le_refl _) rfl _ _ 54 rfl 52 _ 33 56 zDK zGX zDA zHN rfl (by decide) _ _ (Y.flatMap zFS) rfl hown7 b7 1 1 (zFS x).toArray 52 rfl (by rw[List.size_toArray,HXn.out]) (st7.at (i:=0) rfl) HXo.out (by have:=hlen.out;unfold maxLen;simp;omega) (by have:=hlen.out;simp;omega) st7.size ?_;intro v8 w8 st8 hown8 _ _;clear st7 hown7;have hb8:=st8.below;have hown9:=own_ent hown8;clear hown8)
      |((with_reducible refine zBA 52 ?_);refine zBR rfl 52 _ rfl b (off+j*33) rfl aggEnt (zFS e) (by rw[HEn.out];exact zDA) (hat.out _ (by assumption)) ?_)
      |((with_reducible refine zBP 54 ?_);refine zAR st8 rfl 54 1 _ rfl 52 zDK _ 33 zGX zDA (by decide) (by decide) [(0,.agg (zFS e).toArray)] ?_ _ (fillOne 33 (by rw[List.size_toArray,HEn.out])) ?_;(·first | (simp[Act.eval];done) | (simp[Act.eval,Act.put];done) | rfl);intro b11 w11 st11 hb11;have hown11:=zAY hown9 hb11;clear st8 hown9)
      |(at_builtin;refine zCL (base:=w2.heap.size) st11.drop (fun q hq=>(List.not_mem_nil hq).elim) (Nat.le_refl _) rfl _ _ 54 rfl 52 _ 33 56 zDK zGX zDA zHN rfl (by decide) _ _ ((Y++[x]).flatMap zFS) rfl hown11 b11 1 1 (zFS e).toArray 52 rfl (by rw[List.size_toArray,HEn.out]) (st11.at (i:=0) rfl) (entc_one e HOne.out) (by have:=HYx.out;unfold maxLen;simp;omega) (by have:=HYx.out;simp;omega) st11.size ?_;intro v12 w12 st12 hown12 _ _;clear st11 hown11))
     go_roundw
     case rel =>
      obtain⟨h1,h2⟩:=HNx.out _ _ _ _ Hst.out (by rw[show Y++[x,e]=(Y++[x])++[e] by simp];exact own_ent hown12);exact⟨j+1,hlt,rfl,by rw[h1],h2,st12⟩
     case measure=>simp[intOf];omega
    ·have Hst:Hid (zGZ x (Y,false) e=(Y++[e],false)):=by unfold Hid zGZ;rw[if_neg (fun h=>hcm (by have:=h.2;rw[HX.out] at this;exact this))]
     generalize zDV k e.1=C at *
     go_wp2_with (first
      |((with_reducible refine zBA 52 ?_);refine zBR rfl 52 _ rfl b (off+j*33) rfl aggEnt (zFS e) (by rw[HEn.out];exact zDA) (hat.out _ (by assumption)) ?_)
      |((with_reducible refine zBP 54 ?_);refine zAR st6 rfl 54 1 _ rfl 52 zDK _ 33 zGX zDA (by decide) (by decide) [(0,.agg (zFS e).toArray)] ?_ _ (fillOne 33 (by rw[List.size_toArray,HEn.out])) ?_;(·first | (simp[Act.eval];done) | (simp[Act.eval,Act.put];done) | rfl);intro b7 w7 st7 hb7;have hown7:=zAY hown6 hb7;clear st6 hown6)
      |(at_builtin;refine zCL (base:=w2.heap.size) st7.drop (fun q hq=>(List.not_mem_nil hq).elim) (Nat.le_refl _) rfl _ _ 54 rfl 52 _ 33 56 zDK zGX zDA zHN rfl (by decide) _ _ (Y.flatMap zFS) rfl hown7 b7 1 1 (zFS e).toArray 52 rfl (by rw[List.size_toArray,HEn.out]) (st7.at (i:=0) rfl) (entc_one e HOne.out) (by have:=hlen.out;unfold maxLen;simp;omega) (by have:=hlen.out;simp;omega) st7.size ?_;intro v8 w8 st8 hown8 _ _;clear st7 hown7))
     go_roundw
     case rel =>
      obtain⟨h1,h2⟩:=HNx.out _ _ _ _ Hst.out (own_ent hown8);exact⟨j+1,hlt,rfl,by rw[h1],h2,st8⟩
     case measure=>simp[intOf];omega
   ·have hst:zGZ x (Y,true) e=(Y++[e],true):=by simp[zGZ]
    have Hst:=Lib.hid hst;clear hst;have str:=St.init wr;go_upto_region 7 with (first | (fail "x"))
    refine zBH 12 str zBL (by kernel_rfl) ?_;intro I hI hI';simp only[List.take_succ_cons,List.take_zero,List.drop_succ_cons,List.drop_zero]
    iterate 3
     (refine Inv.wpInv_step (fun K hK=>?_);go_simp;apply zAL;· (intro wx hw;go_simp;(try go_ints);(try go_simp);(try (rw[if_pos (by omega)]));(try go_simp);(first | done | rfl))
      refine hK _ ?_;clear hK K)
    iterate 8 (refine Inv.wpInv_step (fun K hK=>?_);go_simp;refine hK _ ?_;clear hK K)
    iterate 1
     (refine Inv.wpInv_step (fun K hK=>?_);go_simp;apply zAL;· (intro wx hw;go_simp;(try go_ints);(try go_simp);(try (rw[if_pos (by omega)]));(try go_simp);(first | done | rfl))
      refine hK _ ?_;clear hK K)
    clear hI hI';refine Inv.wpInv_nil ?_;intro w5 st5;have st6:=st4.call st5.below;have hown6:=zAY hown st5.below;have hb6:=st6.below;clear st4 hown st5 str hb4
    go_wp2_with (first
     |((with_reducible refine zBA 52 ?_);refine zBR rfl 52 _ rfl b (off+j*33) rfl aggEnt (zFS e) (by rw[HEn.out];exact zDA) (hat.out _ (by assumption)) ?_)
     |((with_reducible refine zBP 54 ?_);refine zAR st6 rfl 54 1 _ rfl 52 zDK _ 33 zGX zDA (by decide) (by decide) [(0,.agg (zFS e).toArray)] ?_ _ (fillOne 33 (by rw[List.size_toArray,HEn.out])) ?_;(·first | (simp[Act.eval];done) | (simp[Act.eval,Act.put];done) | rfl);intro b7 w7 st7 hb7;have hown7:=zAY hown6 hb7;clear st6 hown6)
     |(at_builtin;refine zCL (base:=w2.heap.size) st7.drop (fun q hq=>(List.not_mem_nil hq).elim) (Nat.le_refl _) rfl _ _ 54 rfl 52 _ 33 56 zDK zGX zDA zHN rfl (by decide) _ Y.length (Y.flatMap zFS) rfl hown7 b7 1 1 (zFS e).toArray 52 rfl (by rw[List.size_toArray,HEn.out]) (st7.at (i:=0) rfl) (entc_one e HOne.out) (by have:=hlen.out;unfold maxLen;simp;omega) (by have:=hlen.out;simp;omega) st7.size ?_;intro v8 w8 st8 hown8 _ _;clear st7 hown7))
    go_roundw
    case rel =>
     obtain⟨h1,h2⟩:=HNx.out _ _ _ _ Hst.out (own_ent hown8);exact⟨j+1,hlt,rfl,by rw[h1],h2,st8⟩
    case measure=>simp[intOf];omega
  ·obtain rfl:j=rs.length:=by omega
   have hlen:Hid ((foldE x rs).1.length≤30000):=by
    have h1:=foldE_len x rs [] false;have h2:=HRl.out;unfold Hid foldE;simp only[List.length_nil] at h1;omega
   have hin:=insE_eq x rs;have HIn:=Lib.hid hin;rw[List.take_length] at hown ⊢;have HFin:Hid (∀w' v',RdEs w' v' (insE x rs)→Below w2.heap.size w2 w'→RdEs w' v' (putE es k (.slice sa sn sc))∧Below w.heap.size w w'):=fun w' v' h1 h2=>⟨by rw[HPe.out];exact h1,HB2.out.trans (h2.mono HB2.out.size)⟩
   have hx33:(zFS x).length=33:=by rw[HX.out];exact zGO _ HK.out.len
   have HXn:=Lib.hid hx33;have HXo:Hid (∀u∈(zFS x).toArray.toList,u.oneCell'=true):=by unfold Hid;rw[HX.out];exact entc_one _ rfl
   have HBt:Hid (Tryz.prog.built 52 (zBB 0 [.agg (kv k),.slice sa sn sc])=some (zFS x).toArray):=by unfold Hid;rw[HX.out];exact builtEnt k sa sn sc HK.out.len
   have hlt4:=zAG HRow.out;have HA:=Lib.hid (insE_cells x hx33 rs HRs.out);clear hin hx33 hj hlt;generalize hP:foldE x rs=P at hown hlen HIn ⊢;obtain⟨Y,B⟩:=P;clear hP;simp only at hown hlen HIn ⊢;have hb4:=st4.below
   cases B
   ·have HIn2:Hid (Y++[x]=insE x rs):=by have:=HIn.out;unfold Hid;simpa using this
    go_wp2_with (first
     |((with_reducible refine zBA 37 ?_);refine zAC rfl 37 _ rfl b4 rfl _ zBF rfl _ _ ((hb4.block b4 hlt4).trans HRow.out) (zAX HK.out.len) ?_)
     |((with_reducible refine zEG 52 ?_);refine zAM rfl 52 _ rfl (zBB 0 [.agg (kv k),.slice sa sn sc]) ?_ _ HBt.out ?_;(·first | (simp[Act.eval,zBB];done) | (simp[Act.eval,Act.put,zBB];done)))
     |((with_reducible refine zBP 54 ?_);refine zAR st4 rfl 54 1 _ rfl 52 zDK _ 33 zGX zDA (by decide) (by decide) [(0,.agg (zFS x).toArray)] ?_ _ (fillOne 33 (by rw[List.size_toArray,HXn.out])) ?_;(·first | (simp[Act.eval];done) | (simp[Act.eval,Act.put];done) | rfl);intro b7 w7 st7 hb7;have hown7:=zAY hown hb7;clear st4 hown)
     |(at_builtin;refine zCL (base:=w2.heap.size) st7.drop (fun q hq=>(List.not_mem_nil hq).elim) (Nat.le_refl _) rfl _ _ 54 rfl 52 _ 33 56 zDK zGX zDA zHN rfl (by decide) _ _ (Y.flatMap zFS) rfl hown7 b7 1 1 (zFS x).toArray 52 rfl (by rw[List.size_toArray,HXn.out]) (st7.at (i:=0) rfl) HXo.out (by have:=hlen.out;unfold maxLen;simp;omega) (by have:=hlen.out;simp;omega) st7.size ?_;intro v8 w8 st8 hown8 _ _;clear st7 hown7))
    go_ret;have hrd:RdEs w8 v8 (insE x rs):=by
     have h:=own_ent hown8;rw[HIn2.out] at h;exact RdG.own HA.out (by rw[←HIn2.out];have:=hlen.out;simp;omega) h
    exact⟨_,rfl,HFin.out _ _ hrd st8.below⟩
   ·have HIn2:Hid (Y=insE x rs):=by have:=HIn.out;unfold Hid;simpa using this
    have hrd:RdEs wr (.slice a6 Y.length c6) (insE x rs):=by
     have h:=hown;have e:=HIn2.out;have hl:=hlen.out;rw[←e];exact RdG.own (by rw[e];exact HA.out) (by omega) h
    have HRr:=Lib.hid hrd;clear hrd hown;go_wp2;go_ret;exact⟨_,rfl,HFin.out _ _ HRr.out st4.below⟩
end
section
set_option maxHeartbeats 2000000
open Go Go.RowKit
attribute [local irreducible] Inv.wpInv Mix.wpUp
def GoodEs(w:World)(va:Value→List Nat)(es:List (List Nat×Value)):Prop :=
 ∀e∈es,Key e.1∧e.2.oneCell'=true∧RdB w e.2 (va e.2)∧(∀x∈va e.2,x<256)∧(va e.2).length≤100000
theorem GoodEs.call{w w':World}{va:Value→List Nat}{es:List (List Nat×Value)}(h:GoodEs w va es)(hb:Below w.heap.size w w'):GoodEs w' va es:=fun e he=>⟨(h e he).1,(h e he).2.1,(h e he).2.2.1.call hb,(h e he).2.2.2⟩
theorem GoodEs.filter{w:World}{va:Value→List Nat}{es:List (List Nat×Value)}(h:GoodEs w va es)(p:List Nat×Value→Bool):GoodEs w va (es.filter p):=fun e he=>h e (List.mem_filter.1 he).1
def rootF(va:Value→List Nat)(bits:Int):Nat→List (List Nat×Value)→Int→List Nat
 |0,_,_=>zBE zAK bits [3]
 |_+1,[],_=>zBE zAK bits [3]
 |_+1,[e],_=>zBE zAK bits (0::(e.1++zBE zAK bits (2::va e.2)))
 |n+1,e::f::l,d=>zBE zAK bits (1::(rootF va bits n ((e::f::l).filter fun x=>decide (zDQ x.1 d=0)) (d+1)++rootF va bits n ((e::f::l).filter fun x=>decide (zDQ x.1 d=1)) (d+1)))
theorem rootF_key(va:Value→List Nat)(bits:Int):∀(n:Nat)(es:List (List Nat×Value)) (d:Int),Key (rootF va bits n es d)
 |0,_,_=>zBG _ _ _
 |_+1,[],_=>zBG _ _ _
 |_+1,[_],_=>zBG _ _ _
 |_+1,_::_::_,_=>zBG _ _ _
theorem root_nil(bits:Int)(hB:bits≤256)(a:Option Addr)(c:Nat)(d:Int)(w:World) :
  Calls Tryz.prog 22 #[.int .i64 bits,.slice a 0 c,.int .i64 d] w fun e w'=>e=.returned (.agg (kv (zBE zAK bits [3])))∧Below w.heap.size w w':=by
 have HE:=Lib.hid (fun wx=>EmptyR_calls bits hB wx);have HR:Hid ((zBE zAK bits [3]).length=32):=(zBG _ _ _).len;generalize zBE zAK bits [3]=R at *;have st:=St.init w;go_enter Tryz.func22,Tryz.ntmps22
 go_wp2_with (first
  |((with_reducible refine zAW 38 ?_);refine zAE st rfl 38 rfl _ zCG ?_;intro b6 w1 st1;clear st)
  |(go_at_call 49;refine(HE.out _).mono ?_;rintro e w2 ⟨rfl,hb2⟩;have st2:=st1.call hb2;clear st1 hb2)
  |((with_reducible refine zAN 38 ?_);refine zAA st2 rfl 38 _ _ rfl 0 b6 rfl (.agg (kv R)) rfl _ _ rfl (zCA HR.out) (by show (kv R).size=_;rw[zAF,HR.out,zAF];rfl) (zBJ _) _ rfl ?_;intro w5 st5;clear st2))
 exact zBX rfl b6 _ _ _ rfl (st5.at (i:=0) rfl) zEE rfl (zCA HR.out) rfl ⟨rfl,st5.below⟩
set_option maxRecDepth 20000 in
theorem root_many(va:Value→List Nat)(bits:Int)(hB:bits≤256)(n d:Nat)(hd:d<256)(es:List (List Nat×Value))(v:Value)(w:World)(h2:2≤es.length)(hn:es.length≤10000)(hg:GoodEs w va es)(hv:RdEs w v es)
  (IH:∀(b:Int),b=0∨b=1→∀v' w',Below w.heap.size w w'→RdEs w' v' (es.filter fun x=>decide (zDQ x.1 (d:Nat)=b))→Calls Tryz.prog 22 #[.int .i64 bits,v',.int .i64 ((d:Nat)+1)] w' fun e w''=>e=.returned (.agg (kv (rootF va bits n (es.filter fun x=>decide (zDQ x.1 (d:Nat)=b)) ((d:Nat)+1))))∧Below w'.heap.size w' w'') :
  Calls Tryz.prog 22 #[.int .i64 bits,v,.int .i64 (d:Nat)] w fun e w'=>e=.returned (.agg (kv (zBE zAK bits (1::(rootF va bits n (es.filter fun x=>decide (zDQ x.1 (d:Nat)=0)) ((d:Nat)+1)++rootF va bits n (es.filter fun x=>decide (zDQ x.1 (d:Nat)=1)) ((d:Nat)+1))))))∧Below w.heap.size w w':=by
 have HP:=Lib.hid (fun (b:Int) wx (hb:Below w.heap.size w wx)=>PartR_es es v (d:Nat) b wx (fun e he=>⟨(hg e he).1,(hg e he).2.1⟩) (by omega) (hv.call hb));have HI:=Lib.hid IH;have hfl:∀p:List Nat×Value→Bool,(∀e∈es.filter p,(zFS e).length=33)∧(es.filter p).length≤10000:=fun p=>⟨fun e he=>zGO e (hg e (List.mem_filter.1 he).1).1.len,Nat.le_trans (List.length_filter_le _ _) hn⟩
 have HF:=Lib.hid hfl;obtain⟨a,c,rfl,_⟩:=hv.form;have hl2:(2:Int)≤(es.length:Nat):=by omega
 have hdi:((d:Nat):Int)<256:=by omega
 have HK0:=Lib.hid (rootF_key va bits n (es.filter fun x=>decide (zDQ x.1 (d:Nat)=0)) ((d:Nat)+1));have HK1:=Lib.hid (rootF_key va bits n (es.filter fun x=>decide (zDQ x.1 (d:Nat)=1)) ((d:Nat)+1));have HI0:=Lib.hid (IH 0 (.inl rfl));have HI1:=Lib.hid (IH 1 (.inr rfl));have HP0:=Lib.hid (HP.out 0);have HP1:=Lib.hid (HP.out 1);have HF0:=Lib.hid (hfl fun x=>decide (zDQ x.1 (d:Nat)=0));have HF1:=Lib.hid (hfl fun x=>decide (zDQ x.1 (d:Nat)=1));clear hg hv IH hfl h2 HP HI HF;generalize (es.filter fun x=>decide (zDQ x.1 (d:Nat)=0))=e0 at *;generalize (es.filter fun x=>decide (zDQ x.1 (d:Nat)=1))=e1 at *;generalize rootF va bits n e0 ((d:Nat)+1)=D0 at *;generalize rootF va bits n e1 ((d:Nat)+1)=D1 at *;have HN:=Lib.hid (fun wx=>NodeR_calls D0 D1 HK0.out.len HK1.out.len wx);have HS:=Lib.hid (fun v wx (hv:RdB wx v (1::(D0++D1)))=>Sum5_calls bits hB (1::(D0++D1)) v wx (fun x hx=>by
  rcases List.mem_cons.1 hx with rfl | hx
  ·decide
  ·rcases List.mem_append.1 hx with hx | hx
   ·exact HK0.out.lt x hx
   ·exact HK1.out.lt x hx) (by rw[List.length_cons,List.length_append,HK0.out.len,HK1.out.len];decide) hv)
 have HR:Hid ((zBE zAK bits (1::(D0++D1))).length=32):=(zBG _ _ _).len;generalize zBE zAK bits (1::(D0++D1))=R at *;have st:=St.init w;go_enter Tryz.func22,Tryz.ntmps22
 go_wp2_with (first
  |((with_reducible refine zAW 38 ?_);first
    |(refine zAE st rfl 38 rfl _ zCG ?_;intro b6 w1 st1;clear st)
    |(refine zAE st3 rfl 38 rfl _ zCG ?_;intro b7 w4 st4;clear st3)
    |(refine zAE st7 rfl 38 rfl _ zCG ?_;intro b8 w8 st8;clear st7))
  |(go_at_call 51;first
    |(refine(HP0.out _ st1.below).mono ?_;rintro ev w2 ⟨v2,rfl,hown,hb2⟩;have st2:=st1.call hb2;clear st1 hb2;have hrd2:RdEs w2 v2 e0:=RdG.own HF0.out.1 (by have:=HF0.out.2;omega) hown;clear hown)
    |(refine(HP1.out _ st5.below).mono ?_;rintro ev w6 ⟨v6,rfl,hown,hb6⟩;have st6:=st5.call hb6;clear st5 hb6;have hrd6:RdEs w6 v6 e1:=RdG.own HF1.out.1 (by have:=HF1.out.2;omega) hown;clear hown))
  |(go_at_call 22;first
    |(refine(HI0.out _ _ st2.below hrd2).mono ?_;rintro ev w3 ⟨rfl,hb3⟩;have st3:=st2.call hb3;clear st2 hb3 hrd2)
    |(refine(HI1.out _ _ st6.below hrd6).mono ?_;rintro ev w7 ⟨rfl,hb7⟩;have st7:=st6.call hb7;clear st6 hb7 hrd6))
  |((with_reducible refine zAN 38 ?_);first
    |(refine zAA st4 rfl 38 _ _ rfl 0 b7 rfl (.agg (kv D0)) rfl _ _ rfl (zCA HK0.out.len) (by show (kv D0).size=_;rw[zAF,HK0.out.len,zAF];rfl) (zBJ _) _ rfl ?_;intro w5 st5;clear st4)
    |(refine zAA st8 rfl 38 _ _ rfl 0 b8 rfl (.agg (kv D1)) rfl _ _ rfl (zCA HK1.out.len) (by show (kv D1).size=_;rw[zAF,HK1.out.len,zAF];rfl) (zBJ _) _ rfl ?_;intro w9 st9;clear st8)
    |(refine zAA st11 rfl 38 _ _ rfl 2 b6 rfl (.agg (kv R)) rfl _ _ rfl (zCA HR.out) (by show (kv R).size=_;rw[zAF,HR.out,zAF];rfl) (zBJ _) _ rfl ?_;intro w12 st12;clear st11))
  |((with_reducible refine zBA 38 ?_);first
    |(refine zAC rfl 38 _ rfl b7 rfl _ zEE rfl _ _ (st9.at (i:=1) rfl) (zCA HK0.out.len) ?_)
    |(refine zAC rfl 38 _ rfl b8 rfl _ zEE rfl _ _ (st9.at (i:=0) rfl) (zCA HK1.out.len) ?_))
  |(go_at_call 52;refine(HN.out _).mono ?_;rintro ev w10 ⟨v10,rfl,hrd10,hb10⟩;have st10:=st9.call hb10;clear st9 hb10)
  |(go_at_call 44;refine(HS.out _ _ hrd10).mono ?_;rintro ev w11 ⟨rfl,hb11⟩;have st11:=st10.call hb11;clear st10 hb11 hrd10))
 exact zBX rfl b6 _ _ _ rfl (st12.at (i:=2) rfl) zEE rfl (zCA HR.out) rfl ⟨rfl,st12.below⟩
set_option maxRecDepth 20000 in
theorem root_one(va:Value→List Nat)(bits:Int)(hB:bits≤256)(e:List Nat×Value)(d:Int)(v:Value)(w:World)(hg:GoodEs w va [e])(hv:RdEs w v [e]) :
  Calls Tryz.prog 22 #[.int .i64 bits,v,.int .i64 d] w fun e' w'=>e'=.returned (.agg (kv (zBE zAK bits (0::(e.1++zBE zAK bits (2::va e.2))))))∧Below w.heap.size w w':=by
 obtain⟨hk,hone,hrd,hvb,hvl⟩:=hg e List.mem_cons_self;obtain⟨b,off,c,rfl,_,Hat⟩:=hv.at (List.cons_ne_nil _ _);have hat:Hid (∀w',Below w.heap.size w w'→CellsAt w' b off (zFS e)):=fun w' hb=>by
  have h:=Hat.out w' hb 0 Nat.zero_lt_one
  rwa [Nat.zero_mul,Nat.add_zero] at h
 have hkc:Hid (∀w',Below w.heap.size w w'→CellsAt w' b off (zAJ e.1)):=fun w' hb=>by
  have h:=(hat.out w' hb).sub 0 32
  rwa [entc_key e hk.len,Nat.add_zero] at h
 have hvc:Hid (∀w',Below w.heap.size w w'→w'.cell? ⟨b,off+32,none⟩=some e.2):=fun w' hb=>hat.out w' hb 32 e.2 (by unfold zFS;rw[List.getElem?_append_right (by rw[zAI,hk.len];exact Nat.le_refl _),zAI,hk.len];rfl)
 have HLf:=Lib.hid (fun wx (hb:Below w.heap.size w wx)=>LeafOfR_calls bits hB e.1 (va e.2) e.2 wx hk.len hvb (by omega) (hrd.call hb));have HD:=Lib.hid (zBG zAK bits (2::va e.2));generalize zBE zAK bits (2::va e.2)=D at *;have HLe:=Lib.hid (fun wx=>LeafR_calls e.1 D hk.len HD.out.len wx);have HS:=Lib.hid (fun v wx (hv:RdB wx v (0::(e.1++D)))=>Sum5_calls bits hB (0::(e.1++D)) v wx (fun x hx=>by
  rcases List.mem_cons.1 hx with rfl | hx
  ·decide
  ·rcases List.mem_append.1 hx with hx | hx
   ·exact hk.lt x hx
   ·exact HD.out.lt x hx) (by rw[List.length_cons,List.length_append,hk.len,HD.out.len];decide) hv)
 have HR:Hid ((zBE zAK bits (0::(e.1++D))).length=32):=(zBG _ _ _).len;have HK:=Lib.hid hk;generalize hRg:zBE zAK bits (0::(e.1++D))=R at *;clear hg hv hrd hvb hvl Hat hone hk;have st:=St.init w;go_enter Tryz.func22,Tryz.ntmps22;go_upto_region 4 with (first
  |((with_reducible refine zAW 38 ?_);refine zAE st rfl 38 rfl _ zCG ?_;intro b6 w1 st1;clear st))
 refine Mix.wp_region_mix 13 (St w.heap.size w [(b6,kv zAH,38)]) zBL (by kernel_rfl) st1.drew ?_;intro F inv;refine Mix.good_batch (f:=2) F St.up [0,1,2,3,4,5,6,7,8,9,10] _ _ inv (by kernel_rfl) ?_;clear inv st1;have q:=fun (wx:World) (hw:St w.heap.size w [(b6,kv zAH,38)] wx)=>hvc.out wx hw.below
 iterate 5
  (refine Mix.wpUp_cons rfl (fun K hK=>?_);go_simp;apply zAU;· (intro wx hw;go_simp;(try go_ints);(try go_simp);(try (rw[if_pos (by omega)]));(try go_simp);(first | done | rfl))
   refine hK _ ?_;clear hK K)
 (refine Mix.wpUp_cons rfl (fun K hK=>?_);go_simp;refine up_loadG 37 _ rfl b off rfl zBN (zAJ e.1) (by rw[zAI,HK.out.len];exact zBC) (fun wx hw=>hkc.out wx hw.below) ?_;rw[zBK]
  refine hK _ ?_;clear hK K)
 iterate 4
  (refine Mix.wpUp_cons rfl (fun K hK=>?_);go_simp;apply zAU;· (intro wx hw;have q1:=q wx hw;go_simp;(try go_ints);(try go_simp);(try (rw[if_pos (by omega)]));(try go_simp);(first | done | rfl))
   refine hK _ ?_;clear hK K)
 (refine Mix.wpUp_cons rfl (fun K hK=>?_);go_simp;refine zER 18 #[.int .i64 bits,.agg (kv e.1),e.2] ?_ (fun wx stx=>HLf.out wx stx.below) ?_;· (intro wx hw;go_simp)
  refine hK _ ?_;clear hK K)
 refine Mix.wpUp_nil ?_;intro inv;refine Mix.good_one (i:=11) (by kernel_rfl) inv (fun w3 st3=>?_);clear inv q;refine zAT rfl rfl 50 #[.agg (kv (e.1++D))] (by go_simp) ?_;refine(HLe.out w3).mono ?_;rintro ev w4 ⟨v4,rfl,hv4,hbel⟩;refine⟨v4,rfl,fun wx=>St w.heap.size w [(b6,kv zAH,38)] wx∧RdB wx v4 (0::(e.1++D)),fun wx wy h hb=>⟨h.1.call hb,h.2.call hb⟩,⟨st3.call hbel,hv4⟩,fun _ h=>h.1,fun inv=>?_⟩;clear st3 hbel hv4;refine Mix.good_one (i:=12) (by kernel_rfl) inv (fun w5 st5=>?_);clear inv;obtain⟨st5,hv5⟩:=st5;refine zAT rfl rfl 44 #[.int .i64 bits,v4] (by go_simp) ?_;refine(HS.out v4 w5 hv5).mono ?_;rintro ev w6 ⟨rfl,hb6⟩;refine⟨_,rfl,fun wx=>St w.heap.size w [(b6,kv zAH,38)] wx∧RdB wx v4 (0::(e.1++D)),fun wx wy h hb=>⟨h.1.call hb,h.2.call hb⟩,⟨st5.call hb6,hv5.call hb6⟩,fun _ h=>h,fun inv=>?_⟩;clear st5 hv5 hb6 inv F;refine⟨by kernel_rfl,fun w8 h8=>?_⟩;have st8:=h8.1;clear h8;simp only[List.drop_succ_cons,List.drop_zero,Act.put,List.getElem_toArray,List.getElem_cons_succ,List.getElem_cons_zero,List.setIfInBounds_toArray,List.set_cons_succ,List.set_cons_zero]
 go_wp2_with (first
  |((with_reducible refine zAN 38 ?_);refine zAA st8 rfl 38 _ _ rfl 0 b6 rfl (.agg (kv R)) rfl _ _ rfl (zCA HR.out) (by show (kv R).size=_;rw[zAF,HR.out,zAF];rfl) (zBJ _) _ rfl ?_;intro w9 st9;clear st8))
 exact zBX rfl b6 _ _ _ rfl (st9.at (i:=0) rfl) zEE rfl (zCA HR.out) rfl ⟨rfl,st9.below⟩
def DistAt(es:List (List Nat×Value))(d:Nat):Prop:=es.Pairwise (fun e f=>e.1≠f.1)∧∀e∈es,∀f∈es,∀j<d,zBO e.1 j=zBO f.1 j
theorem DistAt.part{es:List (List Nat×Value)}{d:Nat}(h:DistAt es d)(b:Int)(hd:d<256):DistAt (es.filter fun x=>decide (zDQ x.1 (d:Nat)=b)) (d+1):=by
 refine⟨h.1.filter _,fun e he f hf j hj=>?_⟩;obtain⟨he1,he2⟩:=List.mem_filter.1 he;obtain⟨hf1,hf2⟩:=List.mem_filter.1 hf
 by_cases hjd:j<d
 ·exact h.2 e he1 f hf1 j hjd
 ·obtain rfl:j=d:=by omega
  have e1:=of_decide_eq_true he2;have e2:=of_decide_eq_true hf2;have e3:zDQ e.1 (j:Nat)=zDQ f.1 (j:Nat):=e1.trans e2.symm;have at':∀l:List Nat,zDQ l (j:Nat)=(zBO l j:Nat):=fun l=>by
   unfold zDQ;rw[if_pos (by omega)];simp
  rw[at',at'] at e3;omega
theorem Root_calls'(va:Value→List Nat)(bits:Int)(hB:bits≤256):∀(n d:Nat)(es:List (List Nat×Value)) (v:Value) (w:World),d+n=256→DistAt es d→es.length≤10000→GoodEs w va es→RdEs w v es →
  Calls Tryz.prog 22 #[.int .i64 bits,v,.int .i64 (d:Nat)] w fun e w'=>e=.returned (.agg (kv (rootF va bits (n+1) es (d:Nat))))∧Below w.heap.size w w'
 |n,d,[],v,w,_,_,_,_,hv=>by
  obtain⟨a,c,rfl,_⟩:=hv.form;exact root_nil bits hB a c _ w
 |n,d,[e],v,w,_,_,_,hg,hv=>root_one va bits hB e _ v w hg hv
 |0,d,e::f::l,v,w,hd,hdist,_,hg,_=>by
  have hne:e.1≠f.1:=(List.pairwise_cons.1 hdist.1).1 f List.mem_cons_self;exact absurd (key_ext (hg e List.mem_cons_self).1 (hg f (List.mem_cons_of_mem _ List.mem_cons_self)).1 fun j hj=>hdist.2 e List.mem_cons_self f (List.mem_cons_of_mem _ List.mem_cons_self) j (by omega)) hne
 |n+1,d,e::f::l,v,w,hd,hdist,hn,hg,hv=>by
  refine root_many va bits hB (n+1) d (by omega) (e::f::l) v w (by simp) hn hg hv fun b _ v' w' hb hv'=>?_
  have h:=Root_calls' va bits hB n (d+1) _ v' w' (by omega) (hdist.part b (by omega)) (Nat.le_trans (List.length_filter_le _ _) hn) ((hg.call hb).filter _) hv'
  rwa [show ((d+1:Nat):Int)=(d:Nat)+1 by omega] at h
end
section
set_option maxHeartbeats 2000000
open Go Go.RowKit
attribute [local irreducible] Inv.wpInv Mix.wpUp
theorem any_snoc{α:Type}(p:α→Bool)(l:List α)(k:Nat)(hk:k<l.length):(l.take (k+1)).any p=((l.take k).any p||p l[k]):=by
 rw[List.take_add_one,List.getElem?_eq_getElem hk,Option.toList_some,List.any_append];simp
def GetPost(w0:World)(es:List (List Nat×Value))(k:List Nat)(w:World)(e:Ending)(w':World):Prop :=
 Below w.heap.size w w'∧∃s l,e=.returned (.tuple #[s,.bool (es.any fun x=>decide (x.1=k))])∧RdB w0 s l
set_option maxRecDepth 20000 in
theorem GetR_es(va:Value→List Nat)(es:List (List Nat×Value))(v:Value)(k:List Nat)(w:World)(hk:k.length=32)(hg:GoodEs w va es)(hn:es.length≤1000000)(hv:RdEs w v es) :
  Calls Tryz.prog 69 #[v,.agg (kv k)] w (GetPost w es k w):=by
 have HV:=Lib.hid hv;obtain⟨a,c,rfl,_⟩:=hv.form;have HK:=Lib.hid hk;have HG:=Lib.hid hg;have hni:((es.length:Nat):Int)≤1000000:=by omega
 have HP:=Lib.hid (fun (e:Ending) (w':World) (s:Value) (l:List Nat) (b:Bool) (hb:Below w.heap.size w w') (he:e=.returned (.tuple #[s,.bool b])) (hb2:b=es.any fun x=>decide (x.1=k)) (hr:RdB w s l)=>(show GetPost w es k w e w' from ⟨hb,s,l,by rw[he,hb2],hr⟩));generalize GetPost w es k w=R at *;obtain⟨p,hp⟩:∃p:List Nat×Value→Bool,p=fun x=>decide (x.1=k):=⟨_,rfl⟩
 have HPp:=Lib.hid hp;rw[←hp] at HP;clear hv hk hg hn hp;have st:=St.init w;go_enter Tryz.func69,Tryz.ntmps69;go_upto_region 2 with (first
  |(refine zAD st rfl 37 _ rfl _ rfl ?_;intro b3 w1 st1;clear st))
 go_loopw [6] (fun i wr=>∃j:Nat,j≤es.length∧i=.int .i64 (j:Nat)∧Hid ((es.take j).any p=false)∧St w.heap.size w [(b3,kv k,37)] wr) (fun i _=>((es.length:Int) - intOf i).toNat)
 case atStart=>exact⟨0,Nat.zero_le _,rfl,rfl,st1⟩
 case round =>
  obtain⟨j,hj,rfl,Hno,st2⟩:=hrel;clear st1
  by_cases hlt:j<es.length
  ·have hji:((j:Nat):Int)<(es.length:Nat):=by omega
   obtain⟨b,off,c',hva,_,Hat⟩:=HV.out.at (by intro h;rw[h] at hlt;exact absurd hlt (Nat.not_lt_zero _));obtain⟨rfl,rfl⟩:a=some ⟨b,off,none⟩∧c=c':=by injection hva with h1 h2 h3;exact⟨h1,h3⟩
   obtain⟨hk1,_,hrd,_,_⟩:=HG.out es[j] (List.getElem_mem _);have hat:Hid (∀w',Below w.heap.size w w'→CellsAt w' b (off+j*33) (zFS es[j])):=fun w' hb=>Hat.out w' hb j hlt
   have hsn:=any_snoc p es j hlt;have hmem:p es[j]=true→es.any p=true:=fun h=>List.any_eq_true.2 ⟨es[j],List.getElem_mem _,h⟩
   have hpe:p es[j]=decide (es[j].1=k):=by rw[HPp.out]
   generalize es[j]=e at *;have hq:=eqlKey e.1 k hk1.len HK.out;have hgk:=zIP;have hkc:Hid (∀w',Below w.heap.size w w'→CellsAt w' b (off+j*33) (zAJ e.1)):=fun w' hb=>by
    have h:=(hat.out w' hb).sub 0 32
    rwa [entc_key e hk1.len,Nat.add_zero] at h
   have hvc:Hid (∀w',Below w.heap.size w w'→w'.cell? ⟨b,off+j*33+32,none⟩=some e.2):=fun w' hb=>hat.out w' hb 32 e.2 (by unfold zFS;rw[List.getElem?_append_right (by rw[zAI,hk1.len];exact Nat.le_refl _),zAI,hk1.len];rfl)
   have HSn:=Lib.hid hsn;have HPe:=Lib.hid hpe;have HK1:=Lib.hid hk1;have HMem:=Lib.hid hmem;have HRd:=Lib.hid hrd;clear hsn hpe hva Hat hk1 hmem hrd hat;go_upto_region 4 with (first | (fail "x"))
   refine zBH 7 st2 zBL (by kernel_rfl) ?_;intro I hI hI';simp only[List.take_succ_cons,List.take_zero,List.drop_succ_cons,List.drop_zero]
   iterate 4
    (refine Inv.wpInv_step (fun K hK=>?_);go_simp;apply zAL;· (intro wx hw;go_simp;(try go_ints);(try go_simp);(try (rw[if_pos (by omega)]));(try go_simp);(first | done | rfl))
     refine hK _ ?_;clear hK K)
   (refine Inv.wpInv_step (fun K hK=>?_);go_simp;refine zHD 37 _ rfl b (off+j*33) rfl zBN (zAJ e.1) (by rw[zAI,HK1.out.len];exact zBC) (fun wx hw=>hkc.out wx (hI wx hw).below) ?_;rw[zBK]
    refine hK _ ?_;clear hK K)
   (refine Inv.wpInv_step (fun K hK=>?_);go_simp;refine zDP 37 _ rfl b3 rfl _ zBF rfl _ _ (fun wx hw=>(hI wx hw).at (i:=0) rfl) (zAX HK.out) ?_
    refine hK _ ?_;clear hK K)
   cases hd:decide (e.1=k)
   ·have hpf:Hid (p e=false):=by unfold Hid;rw[HPe.out];exact hd
    rw[hd] at hq;clear hd
    iterate 1
     (refine Inv.wpInv_step (fun K hK=>?_);go_simp;apply zAL;· (intro wx hw;go_simp;(try go_ints);(try go_simp);(try (rw[if_pos (by omega)]));(try go_simp);(first | done | rfl))
      refine hK _ ?_;clear hK K)
    clear hI hI';refine Inv.wpInv_nil ?_;intro w4 st4;clear st2 hq;go_wp2;go_roundw
    case rel=>exact⟨j+1,hlt,rfl,by unfold Hid;rw[HSn.out,Hno.out,hpf.out];rfl,st4⟩
    case measure=>simp[intOf];omega
   ·have hpf:Hid (p e=true):=by unfold Hid;rw[HPe.out];exact hd
    rw[hd] at hq;clear hd
    iterate 1
     (refine Inv.wpInv_step (fun K hK=>?_);go_simp;apply zAL;· (intro wx hw;go_simp;(try go_ints);(try go_simp);(try (rw[if_pos (by omega)]));(try go_simp);(first | done | rfl))
      refine hK _ ?_;clear hK K)
    clear hI hI';refine Inv.wpInv_nil ?_;intro w4 st4;clear st2 hq;have hcv:=hvc.out w4 st4.below;go_wp2;exact HP.out _ _ _ _ _ st4.below rfl (HMem.out hpf.out).symm HRd.out
  ·obtain rfl:j=es.length:=by omega
   go_wp2;refine HP.out _ _ _ [] _ st2.below rfl ?_ (RdB.nil w);have h:=Hno.out;rw[List.take_length] at h;exact h.symm
end
section
set_option maxHeartbeats 2000000
open Go Go.RowKit
attribute [local irreducible] Inv.wpInv Mix.wpUp
structure Upd where
 ka:Option Addr
 kn:Nat
 kc:Nat
 va:Option Addr
 vn:Nat
 vc:Nat
 del:Bool
def updc(u:Upd):List Value:=[.slice u.ka u.kn u.kc,.slice u.va u.vn u.vc,.bool u.del]
abbrev RdU(w:World)(v:Value)(us:List Upd):Prop:=RdG 3 updc w v us
theorem cell3{w:World}{b off:Nat}{u:Upd}(h:CellsAt w b off (updc u)):w.cell? ⟨b,off,none⟩=some (.slice u.ka u.kn u.kc)∧w.cell? ⟨b,off+1,none⟩=some (.slice u.va u.vn u.vc)∧w.cell? ⟨b,off+2,none⟩=some (.bool u.del) :=
 ⟨h 0 _ rfl,h 1 _ rfl,h 2 _ rfl⟩
def FewU(us:List Upd):Prop:=us.length≤20∧∀u∈us,u.kn≤100∧u.vn≤70000
def FewPost(us:List Upd)(w:World)(e:Ending)(w':World):Prop:=∃b,e=.returned (.bool b)∧(b=true→FewU us)∧Below w.heap.size w w'
set_option maxRecDepth 20000 in
theorem Few13_calls(us:List Upd)(v:Value)(w:World)(hv:RdU w v us):Calls Tryz.prog 65 #[v] w (FewPost us w):=by
 have HP:=Lib.hid (fun (e:Ending) (w':World) (b:Bool) (he:e=.returned (.bool b)) (h:b=true→FewU us) (hb:Below w.heap.size w w')=>(show FewPost us w e w' from ⟨b,he,h,hb⟩));have HV:=Lib.hid hv;obtain⟨a,c,rfl,_⟩:=hv.form;generalize hR:FewPost us w=R at *;clear hv hR;have st:=St.init w
 by_cases h20:us.length≤20
 ·have h20i:((us.length:Nat):Int)≤20:=by omega
  go_enter Tryz.func65,Tryz.ntmps65;go_upto_region 5 with (first | (fail "x"))
  go_loopw [3,4] (fun n i wr=>∃(j N:Nat),j≤us.length∧N≤j∧n=.int .i64 (N:Nat)∧i=.int .i64 (j:Nat)∧Hid (∀u∈us.take j,u.kn≤100∧u.vn≤70000)∧St w.heap.size w [] wr) (fun _ i _=>((us.length:Int) - intOf i).toNat)
  case atStart=>exact⟨0,0,Nat.zero_le _,Nat.zero_le _,rfl,rfl,fun u hu=>(List.not_mem_nil hu).elim,st⟩
  case round =>
   obtain⟨j,N,hj,hN,rfl,rfl,Hs,st1⟩:=hrel;clear st
   by_cases hlt:j<us.length
   ·have hji:((j:Nat):Int)<(us.length:Nat):=by omega
    have hNi:((N:Nat):Int)≤20:=by omega
    obtain⟨b,off,c',hva,_,Hat⟩:=HV.out.at (by intro h;rw[h] at hlt;exact absurd hlt (Nat.not_lt_zero _));obtain⟨rfl,rfl⟩:a=some ⟨b,off,none⟩∧c=c':=by injection hva with h1 h2 h3;exact⟨h1,h3⟩
    obtain⟨d0,d1,_⟩:=cell3 (Hat.out wr st1.below j hlt);have hs:us[j].kn≤100→us[j].vn≤70000→∀u∈us.take (j+1),u.kn≤100∧u.vn≤70000:=fun h1 h2 u hu=>by
     rw[List.take_add_one,List.getElem?_eq_getElem hlt,Option.toList_some] at hu;rcases List.mem_append.1 hu with hu | hu
     ·exact Hs.out u hu
     ·rw[List.mem_singleton.1 hu];exact⟨h1,h2⟩
    have HSn:=Lib.hid hs;clear hs hva Hat;generalize us[j]=u at *;have HFl:Hid (∀w',Below w.heap.size w w'→R (.returned (.bool false)) w'):=fun w' hb=>HP.out _ _ false rfl (fun h=>by cases h) hb
    by_cases h1:u.kn≤100
    ·by_cases h2:u.vn≤70000
     ·have h1i:((u.kn:Nat):Int)≤100:=by omega
      have h2i:((u.vn:Nat):Int)≤70000:=by omega
      by_cases h3:u.vn≤300
      ·have h3i:((u.vn:Nat):Int)≤300:=by omega
       go_wp2;go_roundw
       case rel=>exact⟨j+1,N,hlt,by omega,rfl,rfl,HSn.out h1 h2,st1⟩
       case measure=>simp[intOf];omega
      ·have h3i:(300:Int)<(u.vn:Nat):=by omega
       go_wp2;go_roundw
       case rel=>exact⟨j+1,N+1,hlt,by omega,by simp,rfl,HSn.out h1 h2,st1⟩
       case measure=>simp[intOf];omega
     ·have h1i:((u.kn:Nat):Int)≤100:=by omega
      have h2i:(70000:Int)<(u.vn:Nat):=by omega
      go_wp2;exact HFl.out _ st1.below
    ·have h1i:(100:Int)<(u.kn:Nat):=by omega
     go_wp2;exact HFl.out _ st1.below
   ·obtain rfl:j=us.length:=by omega
    have HT:Hid (∀(b:Bool) w',Below w.heap.size w w'→R (.returned (.bool b)) w'):=fun b w' hb=>HP.out _ _ b rfl (fun _=>⟨h20,fun u hu=>by have h:=Hs.out u (by rw[List.take_length];exact hu);exact h⟩) hb
    go_wp2;exact HT.out _ _ st1.below
 ·have h20i:(20:Int)<(us.length:Nat):=by omega
  go_enter Tryz.func65,Tryz.ntmps65;go_wp2;exact HP.out _ _ false rfl (fun h=>by cases h) st.below
end
section
set_option maxHeartbeats 2000000
open Go Go.RowKit
attribute [local irreducible] Inv.wpInv Mix.wpUp
def GoodU(w:World)(kb:Upd→List Nat)(us:List Upd):Prop:=∀u∈us,RdB w (.slice u.ka u.kn u.kc) (kb u)∧Key (kb u)
def upE(kb:Upd→List Nat)(m:List (List Nat×Value))(u:Upd):List (List Nat×Value):=if u.del then m.filter (fun e=>decide (e.1≠kb u)) else putE m (kb u) (.slice u.va u.vn u.vc)
def zGG(kb:Upd→List Nat)(m:List (List Nat×Value))(us:List Upd):List (List Nat×Value):=us.foldl (upE kb) m
theorem applyE_succ(kb:Upd→List Nat)(m:List (List Nat×Value))(us:List Upd)(j:Nat)(hj:j<us.length):zGG kb m (us.take (j+1))=upE kb (zGG kb m (us.take j)) us[j]:=by
 unfold zGG;rw[List.take_add_one,List.getElem?_eq_getElem hj,Option.toList_some,List.foldl_append];rfl
def GoodK(m:List (List Nat×Value)):Prop:=∀e∈m,Key e.1∧e.2.oneCell'=true
theorem insE_mem(x:List Nat×Value):∀(l:List (List Nat×Value)) (e:List Nat×Value),e∈insE x l→e=x∨e∈l
 |[],e,he=>.inl (List.mem_singleton.1 (show e∈[x] from he))
 |y::l,e,he=>by
  unfold insE at he
  split at he
  ·rcases List.mem_cons.1 he with rfl | he
   ·exact .inl rfl
   ·exact .inr he
  ·rcases List.mem_cons.1 he with rfl | he
   ·exact .inr List.mem_cons_self
   ·rcases insE_mem x l e he with h | h
    ·exact .inl h
    ·exact .inr (List.mem_cons_of_mem _ h)
theorem insE_length(x:List Nat×Value):∀l:List (List Nat×Value),(insE x l).length=l.length+1
 |[]=>rfl
 |y::l=>by
  unfold insE
  split
  ·simp
  ·rw[List.length_cons,insE_length x l,List.length_cons]
theorem putE_length(m:List (List Nat×Value))(k:List Nat)(s:Value):(putE m k s).length≤m.length+1:=by
 unfold putE;rw[insE_length];exact Nat.succ_le_succ (List.length_filter_le _ _)
theorem putE_good{m:List (List Nat×Value)}{k:List Nat}{s:Value}(h:GoodK m)(hk:Key k)(hs:s.oneCell'=true):GoodK (putE m k s):=fun e he=>by
 rcases insE_mem _ _ e he with rfl | h1
 ·exact⟨hk,hs⟩
 ·exact h e (List.mem_filter.1 h1).1
theorem upE_good{kb:Upd→List Nat}{m:List (List Nat×Value)}{u:Upd}(h:GoodK m)(hk:Key (kb u)):GoodK (upE kb m u)∧(upE kb m u).length≤m.length+1:=by
 unfold upE
 split
 ·exact⟨fun e he=>h e (List.mem_filter.1 he).1,Nat.le_succ_of_le (List.length_filter_le _ _)⟩
 ·exact⟨putE_good h hk rfl,putE_length _ _ _⟩
theorem applyE_good{kb:Upd→List Nat}:∀(us:List Upd)(m:List (List Nat×Value)),GoodK m→(∀u∈us,Key (kb u))→GoodK (zGG kb m us)∧(zGG kb m us).length≤m.length+us.length
 |[],m,h,_=>⟨h,Nat.le_refl _⟩
 |u::us,m,h,hk=>by
  have h1:=upE_good (kb:=kb) h (hk u List.mem_cons_self);have h2:=applyE_good us (upE kb m u) h1.1 (fun x hx=>hk x (List.mem_cons_of_mem _ hx));refine⟨h2.1,Nat.le_trans h2.2 ?_⟩;rw[List.length_cons];omega
def ApPost(m:List (List Nat×Value))(w:World)(e:Ending)(w':World):Prop:=∃v',e=.returned v'∧RdEs w' v' m∧Below w.heap.size w w'
set_option maxRecDepth 20000 in
theorem ApplyR_calls(kb:Upd→List Nat)(m:List (List Nat×Value))(us:List Upd)(v u:Value)(w:World)(hm:GoodK m)(hl:m.length+us.length≤10000)(hu:GoodU w kb us)(hv:RdEs w v m)(huv:RdU w u us) :
  Calls Tryz.prog 75 #[v,u] w (ApPost (zGG kb m us) w):=by
 have HP:=Lib.hid (fun (e:Ending) (w':World) (v':Value) (he:e=.returned v') (h:RdEs w' v' (zGG kb m us)) (hb:Below w.heap.size w w')=>(show ApPost (zGG kb m us) w e w' from ⟨v',he,h,hb⟩));have HV:=Lib.hid huv;have HU:=Lib.hid hu;have HM:=Lib.hid (fun j=>applyE_good (kb:=kb) (us.take j) m hm (fun x hx=>(hu x (List.mem_of_mem_take hx)).2));obtain⟨a,c,rfl,_⟩:=huv.form;have HL:=Lib.hid hl;have hli:((us.length:Nat):Int)≤10000:=by omega
 have HR0:Hid (RdEs w v (zGG kb m (us.take 0))):=hv;generalize hR:ApPost (zGG kb m us) w=R at *;clear hv huv hu hm hl hR;have st:=St.init w;go_enter Tryz.func75,Tryz.ntmps75;go_upto_region 2 with (first | (fail "x"))
 go_loopw [0,5] (fun mv i wr=>∃j:Nat,j≤us.length∧i=.int .i64 (j:Nat)∧RdEs wr mv (zGG kb m (us.take j))∧St w.heap.size w [] wr) (fun _ i _=>((us.length:Int) - intOf i).toNat)
 case atStart=>exact⟨0,Nat.zero_le _,rfl,HR0.out,st⟩
 case round =>
  obtain⟨j,hj,rfl,hrd,st1⟩:=hrel;clear st
  by_cases hlt:j<us.length
  ·have hji:((j:Nat):Int)<(us.length:Nat):=by omega
   obtain⟨b,off,c',hva,_,Hat⟩:=HV.out.at (by intro h;rw[h] at hlt;exact absurd hlt (Nat.not_lt_zero _));obtain⟨rfl,rfl⟩:a=some ⟨b,off,none⟩∧c=c':=by injection hva with h1 h2 h3;exact⟨h1,h3⟩
   have q0:Hid (∀wx,Below w.heap.size w wx→wx.cell? ⟨b,off+j*3,none⟩=some (.slice us[j].ka us[j].kn us[j].kc)∧wx.cell? ⟨b,off+j*3+1,none⟩=some (.slice us[j].va us[j].vn us[j].vc)∧wx.cell? ⟨b,off+j*3+2,none⟩=some (.bool us[j].del)):=fun wx hb=>cell3 (Hat.out wx hb j hlt)
   obtain⟨hkr,hkk⟩:=HU.out us[j] (List.getElem_mem _);have hsn:=applyE_succ kb m us j hlt;obtain⟨hgk,hgl⟩:=HM.out j;have hgl2:(zGG kb m (us.take j)).length≤10000:=by have:=HL.out;rw[List.length_take] at hgl;omega
   have HSn:=Lib.hid hsn;have HGk:=Lib.hid hgk;have HGl:=Lib.hid hgl2;have HKk:=Lib.hid hkk;have HKr:=Lib.hid hkr;clear hva Hat hsn hgk hgl hgl2 hkr hkk;generalize us[j]=x at *;generalize zGG kb m (us.take j)=M at *;have HOf:=Lib.hid (fun wx (hb:Below w.heap.size w wx)=>OfR_calls (kb x) _ wx (by rw[HKk.out.len];exact Nat.le_refl _) (HKr.out.call hb));have HT:Hid ((kb x).take 32=kb x):=List.take_of_length_le (Nat.le_of_eq HKk.out.len);rw[HT.out] at HOf;have hk32:=Lib.hid HKk.out.len;obtain⟨d0,d1,d2⟩:=q0.out wr st1.below;have HRd:=Lib.hid hrd;clear hrd
   cases hdel:x.del
   ·have hu:Hid (upE kb M x=putE M (kb x) (.slice x.va x.vn x.vc)):=by unfold Hid upE;rw[if_neg (by rw[hdel];simp)]
    have HPt:=Lib.hid (fun wx (hb:Below wr.heap.size wr wx)=>PutR_es M _ (kb x) x.va x.vn x.vc wx HKk.out HGk.out HGl.out (HRd.out.call hb));rw[hdel] at d2 q0;have str:=St.init wr;generalize putE M (kb x) (.slice x.va x.vn x.vc)=F at *;go_upto_region 7 with (first
     |(go_at_call 68;refine(HOf.out _ st1.below).mono ?_;rintro ev w2 ⟨rfl,hb2⟩;have st2:=str.call hb2;clear str hb2)
     |((with_reducible refine zAW 37 ?_);refine zAE st2 rfl 37 rfl _ zEL ?_;intro b6 w3 st3;clear st2)
     |((with_reducible refine zAN 37 ?_);refine zAA st3 rfl 37 _ _ rfl 0 b6 rfl (.agg (kv (kb x))) rfl _ _ rfl (zAX hk32.out) (by show (kv (kb x)).size=_;rw[zAF,hk32.out,zAF];rfl) (zBJ _) _ rfl ?_;intro w4 st4;clear st3;have d2':=(q0.out w4 (st1.below.trans (st4.below.mono st1.below.size))).2.2))
    clear d0 d1 d2 d2';refine Mix.wp_region_mix 8 (St wr.heap.size wr [(b6,kv (kb x),37)]) zBL (by kernel_rfl) st4.drew ?_;intro Fm inv;refine Mix.good_batch (f:=1) Fm St.up [0,1,2,3,4,5,6] _ _ inv (by kernel_rfl) ?_;clear inv st4;have q:=fun (wx:World) (hw:St wr.heap.size wr [(b6,kv (kb x),37)] wx)=>(q0.out wx (st1.below.trans (hw.below.mono st1.below.size))).2.1
    iterate 1
     (refine Mix.wpUp_cons rfl (fun K hK=>?_);go_simp;apply zAU;· (intro wx hw;go_simp;(try go_ints);(try go_simp);(try (rw[if_pos (by omega)]));(try go_simp);(first | done | rfl))
      refine hK _ ?_;clear hK K)
    (refine Mix.wpUp_cons rfl (fun K hK=>?_);go_simp;refine zFB 37 _ rfl b6 rfl _ zBF rfl _ _ (fun wx hw=>hw.at (i:=0) rfl) (zAX hk32.out) ?_
     refine hK _ ?_;clear hK K)
    iterate 5
     (refine Mix.wpUp_cons rfl (fun K hK=>?_);go_simp;apply zAU;· (intro wx hw;have q1:=q wx hw;go_simp;(try go_ints);(try go_simp);(try (rw[if_pos (by omega)]));(try go_simp);(first | done | rfl))
      refine hK _ ?_;clear hK K)
    refine Mix.wpUp_nil ?_;intro inv;refine Mix.good_one (i:=7) (by kernel_rfl) inv (fun w5 st5=>?_);clear inv q;refine zAT rfl rfl 23 #[u0,.agg (kv (kb x)),.slice x.va x.vn x.vc] (by go_simp) ?_;refine(HPt.out w5 st5.below).mono ?_;rintro ev w6 ⟨v6,rfl,hrd6,hb6⟩;refine⟨_,rfl,fun wx=>St wr.heap.size wr [(b6,kv (kb x),37)] wx∧RdEs wx v6 F,fun wx wy h hb=>⟨h.1.call hb,h.2.call hb⟩,⟨st5.call hb6,hrd6⟩,fun _ h=>h.1,fun inv=>?_⟩;clear st5 hb6 hrd6 inv Fm;refine⟨by kernel_rfl,fun w8 h8=>?_⟩;obtain⟨st8,hrd8⟩:=h8;simp only[List.drop_succ_cons,List.drop_zero,Act.put,List.getElem_toArray,List.getElem_cons_succ,List.getElem_cons_zero,List.setIfInBounds_toArray,List.set_cons_succ,List.set_cons_zero];have Hrd8:=Lib.hid hrd8;clear hrd8;go_wp2;go_roundw
    case rel=>exact⟨j+1,hlt,rfl,by rw[HSn.out,hu.out];exact Hrd8.out,st1.call st8.below⟩
    case measure=>simp[intOf];omega
   ·have hu:Hid (upE kb M x=M.filter fun e=>decide (e.1≠kb x)):=by unfold Hid upE;rw[if_pos hdel]
    have HRm:=Lib.hid (fun wx (hb:Below wr.heap.size wr wx)=>RemoveR_es M _ (kb x) wx HKk.out.len (fun e he=>⟨(HGk.out e he).1.len,(HGk.out e he).2⟩) (by have:=HGl.out;omega) (HRd.out.call hb));have HFl:Hid ((∀e∈M.filter (fun e=>decide (e.1≠kb x)),(zFS e).length=33)∧(M.filter fun e=>decide (e.1≠kb x)).length≤1099511627776):=⟨fun e he=>zGO e (HGk.out e (List.mem_filter.1 he).1).1.len,Nat.le_trans (List.length_filter_le _ _) (by have:=HGl.out;omega)⟩
    rw[hdel] at d2 q0;have str:=St.init wr;generalize (M.filter fun e=>decide (e.1≠kb x))=F at *
    go_wp2_with (first
     |(go_at_call 68;refine(HOf.out _ st1.below).mono ?_;rintro ev w2 ⟨rfl,hb2⟩;have st2:=str.call hb2;clear str hb2)
     |((with_reducible refine zAW 37 ?_);refine zAE st2 rfl 37 rfl _ zEL ?_;intro b6 w3 st3;clear st2)
     |((with_reducible refine zAN 37 ?_);refine zAA st3 rfl 37 _ _ rfl 0 b6 rfl (.agg (kv (kb x))) rfl _ _ rfl (zAX hk32.out) (by show (kv (kb x)).size=_;rw[zAF,hk32.out,zAF];rfl) (zBJ _) _ rfl ?_;intro w4 st4;clear st3;have d2':=(q0.out w4 (st1.below.trans (st4.below.mono st1.below.size))).2.2)
     |((with_reducible refine zBA 37 ?_);refine zAC rfl 37 _ rfl b6 rfl _ zBF rfl _ _ (st4.at (i:=0) rfl) (zAX hk32.out) ?_)
     |(go_at_call 53;refine(HRm.out _ st4.below).mono ?_;rintro ev w5 ⟨v5,rfl,hown,hb5⟩;have st5:=st4.call hb5;clear st4 hb5;have hrd5:RdEs w5 v5 F:=RdG.own HFl.out.1 HFl.out.2 hown;clear hown))
    go_roundw
    case rel=>exact⟨j+1,hlt,rfl,by rw[HSn.out,hu.out];exact hrd5,st1.call st5.below⟩
    case measure=>simp[intOf];omega
  ·obtain rfl:j=us.length:=by omega
   rw[List.take_length] at hrd;go_wp2;exact HP.out _ _ _ rfl hrd st1.below
end
section
set_option maxHeartbeats 4000000
open Go Go.RowKit
attribute [local irreducible] Inv.wpInv Mix.wpUp
def zFT(u:Upd):Int:=zFF u.kn (if u.del then 0 else u.vn)
def OkU(kb:Upd→List Nat)(us:List Upd):Prop:=(∀u∈us,zFT u=0)∧us.Pairwise fun x y=>kb x≠kb y
def CkUPost(kb:Upd→List Nat)(us:List Upd)(w:World)(e:Ending)(w':World):Prop:=Below w.heap.size w w'∧∃at' code:Int,e=.returned (.tuple #[.int .i64 at',.int .i64 code])∧(code=0↔OkU kb us)
theorem OkU.snoc{kb:Upd→List Nat}{us:List Upd}{j:Nat}(hj:j<us.length)(h:OkU kb (us.take j))(hr:zFT us[j]=0)(hd:∀i (hi:i<j),kb us[i]≠kb us[j]):OkU kb (us.take (j+1)):=by
 rw[List.take_add_one,List.getElem?_eq_getElem hj,Option.toList_some];refine⟨fun u hu=>?_,List.pairwise_append.2 ⟨h.2,List.pairwise_singleton _ _,fun x hx y hy=>?_⟩⟩
 ·rcases List.mem_append.1 hu with hu | hu
  ·exact h.1 u hu
  ·rw[List.mem_singleton.1 hu];exact hr
 ·rw[List.mem_singleton.1 hy]
  obtain⟨i,hi,rfl⟩:=List.getElem_of_mem hx;rw[List.length_take] at hi;rw[List.getElem_take];exact hd i (by omega)
theorem OkU.not_right{kb:Upd→List Nat}{us:List Upd}{j:Nat}(hj:j<us.length)(hr:zFT us[j]≠0):¬OkU kb us:=fun h=>hr (h.1 _ (List.getElem_mem _))
theorem OkU.not_same{kb:Upd→List Nat}{us:List Upd}{i j:Nat}(hj:j<us.length)(hi:i<j)(hs:kb us[i]=kb us[j]):¬OkU kb us:=fun h=>(List.pairwise_iff_getElem.1 h.2 i j (by omega) hj hi) hs
set_option maxRecDepth 20000 in
theorem CheckR_calls(kb:Upd→List Nat)(us:List Upd)(u:Value)(w:World)(hl:us.length≤1000)(hu:∀x∈us,RdB w (.slice x.ka x.kn x.kc) (kb x))(huv:RdU w u us) :
  Calls Tryz.prog 73 #[u] w (CkUPost kb us w):=by
 have HP:=Lib.hid (fun (e:Ending) (w':World) (at' code:Int) (hb:Below w.heap.size w w') (he:e=.returned (.tuple #[.int .i64 at',.int .i64 code])) (h:code=0↔OkU kb us)=>(show CkUPost kb us w e w' from ⟨hb,at',code,he,h⟩));have HV:=Lib.hid huv;have HU:=Lib.hid hu;obtain⟨a,c,rfl,_⟩:=huv.form;have hli:((us.length:Nat):Int)≤1000:=by omega
 generalize hR:CkUPost kb us w=R at *;clear huv hu hl hR;have st:=St.init w;go_enter Tryz.func73,Tryz.ntmps73;go_upto_region 2 with (first | (fail "x"))
 go_loopw [4,5,6,7] (fun i _ _ _ wr=>∃j:Nat,j≤us.length∧i=.int .i64 (j:Nat)∧Hid (OkU kb (us.take j))∧St w.heap.size w [] wr) (fun i _ _ _ _=>((us.length:Int) - intOf i).toNat)
 case atStart=>exact⟨0,Nat.zero_le _,rfl,⟨fun u hu=>(List.not_mem_nil hu).elim,List.Pairwise.nil⟩,st⟩
 case round =>
  obtain⟨j,hj,rfl,Hok,st1⟩:=hrel;clear st
  by_cases hlt:j<us.length
  ·have hji:((j:Nat):Int)<(us.length:Nat):=by omega
   obtain⟨b,off,c',hva,_,Hat⟩:=HV.out.at (by intro h;rw[h] at hlt;exact absurd hlt (Nat.not_lt_zero _));obtain⟨rfl,rfl⟩:a=some ⟨b,off,none⟩∧c=c':=by injection hva with h1 h2 h3;exact⟨h1,h3⟩
   have HCells:=Lib.hid (fun wx (hb:Below w.heap.size w wx) i (hi:i<us.length)=>cell3 (Hat.out wx hb i hi));obtain⟨d0,d1,d2⟩:=HCells.out wr st1.below j hlt;have hur:zFT us[j]=zFF us[j].kn (if us[j].del then 0 else us[j].vn):=rfl;have HUr:=Lib.hid hur;have HSn:=Lib.hid (fun (hr:zFT us[j]=0) (hd:∀i (hi:i<j),kb us[i]≠kb us[j])=>OkU.snoc hlt Hok.out hr hd);have HNr:=Lib.hid (fun (hr:zFT us[j]≠0)=>OkU.not_right (kb:=kb) hlt hr);clear hva Hat hur;have hb1:=st1.below;have HKin:=Lib.hid (fun i (hi:i<us.length)=>HU.out us[i] (List.getElem_mem _));have Hns:=Lib.hid (fun i (hi:i<j) (hs:kb us[i]=kb us[j])=>OkU.not_same (kb:=kb) hlt hi hs);have HC0:=Lib.hid (fun wx (hb:Below w.heap.size w wx) i (hi:i<us.length)=>(HCells.out wx hb i hi).1);have HX1:=Lib.hid (HKin.out j hlt);have HC1:=Lib.hid (fun wx (hb:Below w.heap.size w wx)=>HC0.out wx hb j hlt);clear HCells
   cases hdel:us[j].del
   all_goals
    rw[hdel] at d2;have HU2:=HUr.out;rw[hdel] at HU2
    first
     |(rw[if_neg (by decide)] at HU2)
     |(rw[if_pos rfl] at HU2)
    generalize zFT us[j]=q at *;generalize hx:us[j]=x at *;have HU3:=Lib.hid HU2.symm;clear HU2 HUr hdel HC1;go_upto_region 8 with (first
     |(go_at_call 66;refine(zFA _ _ _ _ _ _ _).mono ?_;rintro ev w2 ⟨rfl,rfl⟩))
    rw[HU3.out]
    by_cases hq:q=0
    ·subst hq
     go_upto_region 11 with (first | (fail "x"))
     go_loopw [7] (fun i wr2=>∃k:Nat,k≤j∧i=.int .i64 (k:Nat)∧Hid (∀i (hi:i<k) (hij:i<us.length),kb us[i]≠kb x)∧St w.heap.size w [] wr2) (fun i _=>((j:Int) - intOf i).toNat)
     case atStart=>exact⟨0,Nat.zero_le _,rfl,fun i hi=>absurd hi (Nat.not_lt_zero _),st1⟩
     case round =>
      obtain⟨k,hk,rfl,Hd,st2⟩:=hrel;clear st1 hb1 d0 d1 d2
      by_cases hkj:k<j
      ·have hki:((k:Nat):Int)<(j:Nat):=by omega
       have hkl:k<us.length:=Nat.lt_trans hkj hlt;have hkli:((k:Nat):Int)<(us.length:Nat):=by omega
       have q0:Hid (∀wx,Below w.heap.size w wx→wx.cell? ⟨b,off+j*3,none⟩=some (.slice x.ka x.kn x.kc)∧wx.cell? ⟨b,off+k*3,none⟩=some (.slice us[k].ka us[k].kn us[k].kc)):=fun wx hb=>⟨by have h:=HC0.out wx hb j hlt;rw[hx] at h;exact h,HC0.out wx hb k hkl⟩
       have HSm:=Lib.hid (fun wx (hb:Below w.heap.size w wx)=>SameR_calls _ _ _ _ wx (HX1.out.call hb) ((HKin.out k hkl).call hb));have HDn:=Lib.hid (fun (h:¬kb x=kb us[k])=>(show Hid (∀i (hi:i<k+1) (hij:i<us.length),kb us[i]≠kb x) from fun i hi hij=>by
        rcases Nat.lt_succ_iff_lt_or_eq.1 hi with h1 | h1
        ·exact Hd.out i h1 hij
        ·subst h1;exact fun e=>h e.symm))
       have HDe:=Lib.hid (fun (h:kb x=kb us[k])=>(Hns.out k hkj h.symm));generalize us[k]=y at *;go_upto_region 13 with (first | (fail "x"))
       refine zBH 11 st2 zBL (by kernel_rfl) ?_;intro I hI hI';have q:=fun wx (hw:I wx)=>q0.out wx (hI wx hw).below
       simp only[List.take_succ_cons,List.take_zero,List.drop_succ_cons,List.drop_zero]
       iterate 10
        (refine Inv.wpInv_step (fun K hK=>?_);go_simp;apply zAL;· (intro wx hw;have q1:=q wx hw;go_simp;(try go_ints);(try go_simp);(try (rw[if_pos (by omega)]));(try go_simp);(first | done | rfl))
         refine hK _ ?_;clear hK K)
       (refine Inv.wpInv_step (fun K hK=>?_);go_simp;refine zDF hI hI' 71 _ ?_ (fun wx stx=>HSm.out wx stx.below) ?_;· (intro wx hw;go_simp)
        refine hK _ ?_;clear hK K)
       clear q hI hI';refine Inv.wpInv_nil ?_;intro w3 st3;clear st2
       by_cases he:kb x=kb y
       ·rw[decide_eq_true he]
        go_wp2;exact HP.out _ _ _ 9 st3.below rfl ⟨fun h=>absurd h (by decide),fun h=>absurd h (HDe.out he)⟩
       ·rw[decide_eq_false he]
        go_wp2;go_roundw
        case rel=>exact⟨k+1,hkj,rfl,HDn.out he,st3⟩
        case measure=>simp[intOf];omega
      ·obtain rfl:k=j:=by omega
       go_wp2;go_roundw
       case rel=>exact⟨k+1,hlt,rfl,HSn.out trivial (fun i hi=>Hd.out i hi (by omega)),st2⟩
       case measure=>simp[intOf];omega
    ·go_wp2
     exact HP.out _ _ _ q st1.below rfl ⟨fun h=>absurd h hq,fun h=>absurd h (HNr.out hq)⟩
  ·obtain rfl:j=us.length:=by omega
   have hok:=Hok.out;rw[List.take_length] at hok;have HO:=Lib.hid hok;clear hok;go_wp2;exact HP.out _ _ 0 0 st1.below rfl ⟨fun _=>HO.out,fun _=>rfl⟩
end
end Go.Proofs.YtlcngapphloafaaGreatDoor
