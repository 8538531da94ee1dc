/- Parts of the proof that are used by the claim: Ch2, Ch3, Ch4, Ch5, Ch6, Pl2. No condition is added here. -/
import Derived.Test.YtlcngapphloafaaGreatDoorPk27
import Derived.Test.YtlcngapphloafaaGreatDoorPk20
namespace Go.Proofs.YtlcngapphloafaaGreatDoor
section
set_option maxHeartbeats 2000000
open Go Go.RowKit
attribute [local irreducible] Inv.wpInv Mix.wpUp
def krow(ks:List (List Nat))(n j:Nat):List Nat:=(ks.take j).flatten++List.replicate (32*(n - j)) 0
theorem flat32(ks:List (List Nat))(h:∀k∈ks,k.length=32):ks.flatten.length=32*ks.length:=by
 induction ks with
 |nil=>rfl
 |cons k ks ih =>
  rw[List.flatten_cons,List.length_append,h k List.mem_cons_self,ih (fun x hx=>h x (List.mem_cons_of_mem _ hx)),List.length_cons];omega
theorem krow_len(ks:List (List Nat))(h:∀k∈ks,k.length=32)(j:Nat)(hj:j≤ks.length):(krow ks ks.length j).length=32*ks.length:=by
 unfold krow;rw[List.length_append,flat32 _ (fun k hk=>h k (List.mem_of_mem_take hk)),List.length_take,List.length_replicate,Nat.min_eq_left hj];omega
theorem krow_put(ks:List (List Nat))(h:∀k∈ks,k.length=32)(j:Nat)(hj:j<ks.length):zCT (kv (krow ks ks.length j)) (j*32) (.agg (kv ks[j]))=kv (krow ks ks.length (j+1)):=by
 have hk:=h ks[j] (List.getElem_mem _);have hf:(ks.take j).flatten.length=j*32:=by rw[flat32 _ (fun k hk=>h k (List.mem_of_mem_take hk)),List.length_take,Nat.min_eq_left (by omega)];omega
 rw[kv_put,hk]
 congr 1
 unfold krow;rw[List.take_left' hf,List.drop_append,hf,List.drop_eq_nil_of_le (by rw[hf];omega),List.nil_append,List.drop_replicate,List.take_add_one,List.getElem?_eq_getElem hj,Option.toList_some,List.flatten_append,List.append_assoc]
 congr 1
 simp only[List.flatten_cons,List.flatten_nil,List.append_nil]
 congr 2
 omega
theorem madeKeys(n:Nat)(ks:List (List Nat)):madeCells (Value.agg (kv zAH)).cells (n*32)=kv (krow ks n 0):=by
 have e:krow ks n 0=List.replicate (32*n) 0:=by simp[krow]
 rw[e];apply Array.ext
 ·rw[size_madeCells,zAF,List.length_replicate,Nat.mul_comm]
 ·intro i h1 h2
  rw[size_madeCells] at h1;have hs:(Value.agg (kv zAH)).cells=kv zAH:=rfl;have hz:(kv zAH).size=32:=by rw[zAF];rfl
  have hl:i%32<32:=Nat.mod_lt _ (by decide);have e1:(kv zAH)[i%32]! = .int .u8 0:=by
   have h3:=zFX zAH (i%32) (by simpa[zAH] using hl);have h4:zAH.getD (i%32) 0=0:=by
    unfold zAH;rw[List.getD_eq_getElem?_getD,List.getElem?_replicate,if_pos hl];rfl
   rw[getElem!_def,h3,h4];rfl
  have e2:(madeCells (Value.agg (kv zAH)).cells (n*32))[i]=(kv zAH)[i%32]! := by
   simp only[madeCells,Array.getElem_map,Array.getElem_range,hs,hz]
  have e3:(kv (List.replicate (32*n) 0))[i]=.int .u8 0:=by
   simp[kv]
  rw[e2,e1,e3]
set_option maxRecDepth 20000 in
theorem Keys1_calls(cs:List Chg)(v:Value)(w:World)(hk:KeysCh cs)(hn:cs.length≤100000)(hv:RdCh w v cs) :
  Calls Tryz.prog 178 #[v,.func (.func 179) #[] #[]] w fun e w'=>∃v',e=.returned v'∧RdG 32 zAJ w' v' (cs.map (·.k))∧Below w.heap.size w w':=by
 have HV:=Lib.hid hv;obtain⟨a,c,rfl,_⟩:=hv.form;have HK:=Lib.hid hk;have hni:((cs.length:Nat):Int)≤100000:=by omega
 obtain⟨ks,hks⟩:∃ks,ks=cs.map (·.k):=⟨_,rfl⟩
 have hkl:ks.length=cs.length:=by rw[hks,List.length_map]
 have HKl:Hid (∀k∈ks,k.length=32):=fun k hk'=>by
  rw[hks] at hk';obtain⟨x,hx,rfl⟩:=List.mem_map.1 hk';exact(hk x hx).len
 have HKa:Hid (∀j (hj:j<cs.length) (hj':j<ks.length),ks[j]=cs[j].k):=fun j hj hj'=>by subst hks;simp
 have HMade:=Lib.hid (madeKeys cs.length ks);have HLen:Hid (∀j,j≤cs.length→(krow ks cs.length j).length=32*cs.length):=fun j hj=>by rw[←hkl];exact krow_len ks HKl.out j (by omega)
 have HPut:Hid (∀j (hj:j<ks.length),zCT (kv (krow ks cs.length j)) (j*32) (.agg (kv ks[j]))=kv (krow ks cs.length (j+1))):=fun j hj=>by rw[←hkl];exact krow_put ks HKl.out j hj
 have HFin:Hid (∀(wx:World)(b:Nat),wx.heap[b]?=some (.cells (kv (krow ks cs.length cs.length)) 37 (0,0))→RdG 32 zAJ wx (.slice (some ⟨b,0,none⟩) cs.length cs.length) (cs.map (·.k))):=fun wx b hrow=>by
  rw[←hks];have hl:∀x∈ks,(zAJ x).length=32:=fun x hx=>by rw[zAI,HKl.out x hx]
  refine⟨hl,by omega,some ⟨b,0,none⟩,cs.length,by rw[hkl],by omega,fun _=>⟨b,0,rfl,fun i hi=>?_⟩⟩;rw[Nat.zero_add];refine CellsAt.row (n:=32) hrow ?_;have e:krow ks cs.length cs.length=ks.flatten:=by unfold krow;rw[←hkl,List.take_length];simp
  rw[e,zCJ];have e2:zAJ ks.flatten=ks.flatMap zAJ:=by
   unfold zAJ;simp[List.flatMap,List.map_flatten]
  rw[e2];exact flatG_at hl i hi
 clear hks hv hk;have st:=St.init w;go_enter Tryz.func178,Tryz.ntmps178
 go_wp2_with (first
  |(refine zIX st rfl 299 _ _ rfl 37 _ 32 32 sliceKeys zEL zBC bytesKey0 .i64 .i64 (cs.length:Nat) (cs.length:Nat) rfl rfl (by omega) (by omega) (by omega) (by omega) ?_;intro b5 w1 st1;clear st))
 have st2:St w.heap.size w [(b5,kv (krow ks cs.length 0),37)] w1:=by
  have h:=st1;rw[Int.toNat_natCast] at h;exact HMade.out▸h
 clear st1
 go_loopw [13] (fun i wr=>∃j:Nat,j≤cs.length∧i=.int .i64 (j:Nat)∧St w.heap.size w [(b5,kv (krow ks cs.length j),37)] wr) (fun i _=>((cs.length:Int) - intOf i).toNat)
 case atStart=>exact⟨0,Nat.zero_le _,rfl,st2⟩
 case round =>
  obtain⟨j,hj,rfl,st3⟩:=hrel;clear st2
  by_cases hlt:j<cs.length
  ·have hji:((j:Nat):Int)<(cs.length:Nat):=by omega
   obtain⟨b,off,c',hva,_,Hat⟩:=HV.out.at (by intro h;rw[h] at hlt;exact absurd hlt (Nat.not_lt_zero _));obtain⟨rfl,rfl⟩:a=some ⟨b,off,none⟩∧c=c':=by injection hva with h1 h2 h3;exact⟨h1,h3⟩
   have hk1:=(HK.out cs[j] (List.getElem_mem _)).len;have hat:Hid (∀w',Below w.heap.size w w'→CellsAt w' b (off+j*34) (chc cs[j])):=fun w' hb=>Hat.out w' hb j hlt
   have hkj:=HKa.out j hlt (by omega);have hput:=HPut.out j (by omega);rw[hkj] at hput;generalize cs[j]=x at *;have HPj:=Lib.hid hput;have HK1:=Lib.hid hk1;have HL:=Lib.hid (zFK x hk1);have HS:=Lib.hid (zDS x hk1);have H1:=Lib.hid (zJG x);have HF:=Lib.hid (fun wx=>keyFn1_calls x hk1 wx);have HLj:=Lib.hid (HLen.out j hj);clear hva Hat hk1 hkj hput
   go_wp2_with (first
    |((with_reducible refine zBA 276 ?_);first
      |(refine zBR rfl 276 _ rfl b (off+j*34) rfl aggCh (chc x) (by rw[HL.out];exact zCD) (hat.out _ st3.below) ?_)
      |(refine zAC rfl 276 _ rfl b7 rfl _ aggCh.choose_spec.1 aggCh.choose_spec.2 _ _ (st5.at (i:=0) rfl) (zHT HS.out) ?_))
    |((with_reducible refine zAW 276 ?_);refine zAE st3 rfl 276 rfl _ zeroCh ?_;intro b7 w4 st4;clear st3)
    |((with_reducible refine zAN 276 ?_);refine zAA st4 rfl 276 _ _ rfl 0 b7 rfl (.agg (chc x).toArray) rfl _ _ rfl (zHT HS.out) (by show (chc x).toArray.size=_;rw[HS.out];rfl) H1.out _ rfl ?_;intro w5 st5;clear st4)
    |(go_at_call 179;refine(HF.out _).mono ?_;rintro e w6 ⟨rfl,hb6⟩;have st6:=st5.call hb6;clear st5 hb6)
    |((with_reducible refine zAN 37 ?_);(refine zAZ st6 rfl 37 _ _ rfl 1 b5 (j*32) rfl (.agg (kv x.k)) rfl _ _ rfl (zAX HK1.out) (by show j*32+(kv x.k).size≤(kv (krow ks cs.length j)).size;rw[zAF,zAF,HK1.out,HLj.out];omega) (zBJ _) _ HPj.out _ rfl ?_);intro w7 st7 hg7;clear st6 hg7))
   go_roundw
   case rel=>exact⟨j+1,hlt,rfl,st7.drop⟩
   case measure=>simp[intOf];omega
  ·obtain rfl:j=cs.length:=by omega
   go_wp2;go_ret;exact⟨_,rfl,HFin.out _ _ (st3.at (i:=0) rfl),st3.below⟩
set_option maxRecDepth 20000 in
theorem Keys2_calls(cs:List Chg)(v:Value)(w:World)(hk:KeysCh cs)(hn:cs.length≤100000)(hv:RdCh w v cs) :
  Calls Tryz.prog 178 #[v,.func (.func 185) #[] #[]] w fun e w'=>∃v',e=.returned v'∧RdG 32 zAJ w' v' (cs.map (·.k))∧Below w.heap.size w w':=by
 have HV:=Lib.hid hv;obtain⟨a,c,rfl,_⟩:=hv.form;have HK:=Lib.hid hk;have hni:((cs.length:Nat):Int)≤100000:=by omega
 obtain⟨ks,hks⟩:∃ks,ks=cs.map (·.k):=⟨_,rfl⟩
 have hkl:ks.length=cs.length:=by rw[hks,List.length_map]
 have HKl:Hid (∀k∈ks,k.length=32):=fun k hk'=>by
  rw[hks] at hk';obtain⟨x,hx,rfl⟩:=List.mem_map.1 hk';exact(hk x hx).len
 have HKa:Hid (∀j (hj:j<cs.length) (hj':j<ks.length),ks[j]=cs[j].k):=fun j hj hj'=>by subst hks;simp
 have HMade:=Lib.hid (madeKeys cs.length ks);have HLen:Hid (∀j,j≤cs.length→(krow ks cs.length j).length=32*cs.length):=fun j hj=>by rw[←hkl];exact krow_len ks HKl.out j (by omega)
 have HPut:Hid (∀j (hj:j<ks.length),zCT (kv (krow ks cs.length j)) (j*32) (.agg (kv ks[j]))=kv (krow ks cs.length (j+1))):=fun j hj=>by rw[←hkl];exact krow_put ks HKl.out j hj
 have HFin:Hid (∀(wx:World)(b:Nat),wx.heap[b]?=some (.cells (kv (krow ks cs.length cs.length)) 37 (0,0))→RdG 32 zAJ wx (.slice (some ⟨b,0,none⟩) cs.length cs.length) (cs.map (·.k))):=fun wx b hrow=>by
  rw[←hks];have hl:∀x∈ks,(zAJ x).length=32:=fun x hx=>by rw[zAI,HKl.out x hx]
  refine⟨hl,by omega,some ⟨b,0,none⟩,cs.length,by rw[hkl],by omega,fun _=>⟨b,0,rfl,fun i hi=>?_⟩⟩;rw[Nat.zero_add];refine CellsAt.row (n:=32) hrow ?_;have e:krow ks cs.length cs.length=ks.flatten:=by unfold krow;rw[←hkl,List.take_length];simp
  rw[e,zCJ];have e2:zAJ ks.flatten=ks.flatMap zAJ:=by
   unfold zAJ;simp[List.flatMap,List.map_flatten]
  rw[e2];exact flatG_at hl i hi
 clear hks hv hk;have st:=St.init w;go_enter Tryz.func178,Tryz.ntmps178
 go_wp2_with (first
  |(refine zIX st rfl 299 _ _ rfl 37 _ 32 32 sliceKeys zEL zBC bytesKey0 .i64 .i64 (cs.length:Nat) (cs.length:Nat) rfl rfl (by omega) (by omega) (by omega) (by omega) ?_;intro b5 w1 st1;clear st))
 have st2:St w.heap.size w [(b5,kv (krow ks cs.length 0),37)] w1:=by
  have h:=st1;rw[Int.toNat_natCast] at h;exact HMade.out▸h
 clear st1
 go_loopw [13] (fun i wr=>∃j:Nat,j≤cs.length∧i=.int .i64 (j:Nat)∧St w.heap.size w [(b5,kv (krow ks cs.length j),37)] wr) (fun i _=>((cs.length:Int) - intOf i).toNat)
 case atStart=>exact⟨0,Nat.zero_le _,rfl,st2⟩
 case round =>
  obtain⟨j,hj,rfl,st3⟩:=hrel;clear st2
  by_cases hlt:j<cs.length
  ·have hji:((j:Nat):Int)<(cs.length:Nat):=by omega
   obtain⟨b,off,c',hva,_,Hat⟩:=HV.out.at (by intro h;rw[h] at hlt;exact absurd hlt (Nat.not_lt_zero _));obtain⟨rfl,rfl⟩:a=some ⟨b,off,none⟩∧c=c':=by injection hva with h1 h2 h3;exact⟨h1,h3⟩
   have hk1:=(HK.out cs[j] (List.getElem_mem _)).len;have hat:Hid (∀w',Below w.heap.size w w'→CellsAt w' b (off+j*34) (chc cs[j])):=fun w' hb=>Hat.out w' hb j hlt
   have hkj:=HKa.out j hlt (by omega);have hput:=HPut.out j (by omega);rw[hkj] at hput;generalize cs[j]=x at *;have HPj:=Lib.hid hput;have HK1:=Lib.hid hk1;have HL:=Lib.hid (zFK x hk1);have HS:=Lib.hid (zDS x hk1);have H1:=Lib.hid (zJG x);have HF:=Lib.hid (fun wx=>keyFn2_calls x hk1 wx);have HLj:=Lib.hid (HLen.out j hj);clear hva Hat hk1 hkj hput
   go_wp2_with (first
    |((with_reducible refine zBA 276 ?_);first
      |(refine zBR rfl 276 _ rfl b (off+j*34) rfl aggCh (chc x) (by rw[HL.out];exact zCD) (hat.out _ st3.below) ?_)
      |(refine zAC rfl 276 _ rfl b7 rfl _ aggCh.choose_spec.1 aggCh.choose_spec.2 _ _ (st5.at (i:=0) rfl) (zHT HS.out) ?_))
    |((with_reducible refine zAW 276 ?_);refine zAE st3 rfl 276 rfl _ zeroCh ?_;intro b7 w4 st4;clear st3)
    |((with_reducible refine zAN 276 ?_);refine zAA st4 rfl 276 _ _ rfl 0 b7 rfl (.agg (chc x).toArray) rfl _ _ rfl (zHT HS.out) (by show (chc x).toArray.size=_;rw[HS.out];rfl) H1.out _ rfl ?_;intro w5 st5;clear st4)
    |(go_at_call 185;refine(HF.out _).mono ?_;rintro e w6 ⟨rfl,hb6⟩;have st6:=st5.call hb6;clear st5 hb6)
    |((with_reducible refine zAN 37 ?_);(refine zAZ st6 rfl 37 _ _ rfl 1 b5 (j*32) rfl (.agg (kv x.k)) rfl _ _ rfl (zAX HK1.out) (by show j*32+(kv x.k).size≤(kv (krow ks cs.length j)).size;rw[zAF,zAF,HK1.out,HLj.out];omega) (zBJ _) _ HPj.out _ rfl ?_);intro w7 st7 hg7;clear st6 hg7))
   go_roundw
   case rel=>exact⟨j+1,hlt,rfl,st7.drop⟩
   case measure=>simp[intOf];omega
  ·obtain rfl:j=cs.length:=by omega
   go_wp2;go_ret;exact⟨_,rfl,HFin.out _ _ (st3.at (i:=0) rfl),st3.below⟩
end
section
set_option maxHeartbeats 2000000
open Go Go.RowKit
attribute [local irreducible] Inv.wpInv Mix.wpUp
abbrev RdKs(w:World)(v:Value)(ks:List (List Nat)):Prop:=RdG 32 zAJ w v ks
set_option maxRecDepth 20000 in
theorem KCheck_calls(ks:List (List Nat))(v:Value)(w:World)(hk:∀k∈ks,Key k)(hn:ks.length≤100000)(hasc:∀i (h:i+1<ks.length),zDV ks[i] ks[i+1]<0)(hv:RdKs w v ks) :
  Calls Tryz.prog 177 #[v] w fun e w'=>e=.returned (.int .i64 0)∧Below w.heap.size w w':=by
 have HV:=Lib.hid hv;obtain⟨a,c,rfl,_⟩:=hv.form;have HK:=Lib.hid hk;have HA:=Lib.hid hasc;have hni:((ks.length:Nat):Int)≤100000:=by omega
 clear hv hk hasc;have st:=St.init w;go_enter Tryz.func177,Tryz.ntmps177;go_wp2
 go_loopw [3] (fun i wr=>∃j:Nat,i=.int .i64 ((j:Nat)+1)∧(j+1≤ks.length∨j=0)∧St w.heap.size w [] wr) (fun i _=>((ks.length:Int)+1 - intOf i).toNat)
 case atStart=>exact⟨0,rfl,.inr rfl,st⟩
 case round =>
  obtain⟨j,rfl,hj,st3⟩:=hrel;clear st
  by_cases hlt:j+1<ks.length
  ·have hji:((j:Nat):Int)+1<(ks.length:Nat):=by omega
   have hj0:(0:Int)≤(j:Nat):=by omega
   obtain⟨b,off,c',hva,_,Hat⟩:=HV.out.at (by intro h;rw[h] at hlt;exact absurd hlt (Nat.not_lt_zero _));obtain⟨rfl,rfl⟩:a=some ⟨b,off,none⟩∧c=c':=by injection hva with h1 h2 h3;exact⟨h1,h3⟩
   have hk0:=HK.out ks[j] (List.getElem_mem _);have hk1:=HK.out ks[j+1] (List.getElem_mem _);have hat0:Hid (∀w',Below w.heap.size w w'→CellsAt w' b (off+j*32) (zAJ ks[j])):=fun w' hb=>Hat.out w' hb j (by omega)
   have hat1:Hid (∀w',Below w.heap.size w w'→CellsAt w' b (off+(j+1)*32) (zAJ ks[j+1])):=fun w' hb=>Hat.out w' hb (j+1) hlt
   have hneg:=HA.out j hlt;have HC:=Lib.hid (fun wx=>Compare_calls ks[j] ks[j+1] hk0 hk1 wx);have HL0:=Lib.hid hk0.len;have HL1:=Lib.hid hk1.len;generalize ks[j]=k0 at *;generalize ks[j+1]=k1 at *;generalize zDV k0 k1=cm at *;clear hva Hat hk0 hk1;have hc0:(cm==0)=false:=by
    have:cm≠0:=by omega
    simp[this]
   go_wp2;refine zBH 11 st3 zBL (by kernel_rfl) ?_;intro I hI hI';simp only[List.take_succ_cons,List.take_zero,List.drop_succ_cons,List.drop_zero];have hs1:((j:Nat):Int)+1 - 1=(j:Nat):=by omega
   iterate 4
    (refine Inv.wpInv_step (fun K hK=>?_);go_simp;apply zAL;· (intro wx hw;go_simp;(try go_ints);(try go_simp);(try (rw[if_pos (by omega)]));(try go_simp);(first | done | rfl))
     refine hK _ ?_;clear hK K)
   (refine Inv.wpInv_step (fun K hK=>?_);go_simp;refine zHD 37 _ rfl b (off+j*32) rfl zBN (zAJ k0) (by rw[zAI,HL0.out];exact zBC) (fun wx hw=>hat0.out wx (hI wx hw).below) ?_;rw[zBK]
    refine hK _ ?_;clear hK K)
   iterate 3
    (refine Inv.wpInv_step (fun K hK=>?_);go_simp;apply zAL;· (intro wx hw;go_simp;(try go_ints);(try go_simp);(try (rw[if_pos (by omega)]));(try go_simp);(first | done | rfl))
     refine hK _ ?_;clear hK K)
   (refine Inv.wpInv_step (fun K hK=>?_);go_simp;refine zHD 37 _ rfl b (off+(j+1)*32) rfl zBN (zAJ k1) (by rw[zAI,HL1.out];exact zBC) (fun wx hw=>hat1.out wx (hI wx hw).below) ?_;rw[zBK]
    refine hK _ ?_;clear hK K)
   (refine Inv.wpInv_step (fun K hK=>?_);go_simp;refine zDF hI hI' 154 _ ?_ (fun wx stx=>HC.out wx) ?_;· (intro wx hw;go_simp)
    refine hK _ ?_;clear hK K)
   iterate 1
    (refine Inv.wpInv_step (fun K hK=>?_);go_simp;apply zAL;· (intro wx hw;go_simp;(try go_ints);(try go_simp);(try (rw[if_pos (by omega)]));(try go_simp);(first | done | rfl))
     refine hK _ ?_;clear hK K)
   refine Inv.wpInv_nil ?_;intro w5 st5;clear hI hI' st3;have hc1:¬(0:Int)<cm:=by omega
   go_wp2;go_roundw
   case rel=>exact⟨j+1,rfl,.inl hlt,st5⟩
   case measure=>simp[intOf];omega
  ·have hji:¬((j:Nat):Int)+1<(ks.length:Nat):=by omega
   go_wp2;go_ret;exact⟨rfl,st3.below⟩
theorem zeroOneBit(k:List Nat)(d:Nat):(zBO k d:Nat)=0∨(zBO k d:Nat)=1:=by have:=zCQ k d;omega
set_option maxRecDepth 20000 in
theorem SplitFn_calls(ks:List (List Nat))(v:Value)(d:Nat)(hd:d<256)(b2 b3:Nat)(j:Nat)(hj:j<ks.length)(w:World)(hk:Key (ks[j]))(hv:RdKs w v ks)(h2:w.cell? ⟨b2,0,none⟩=some v)(h3:w.cell? ⟨b3,0,none⟩=some (.int .i64 (d:Nat))) :
  Calls Tryz.prog 210 #[.int .i64 (j:Nat),.pointer (some ⟨b2,0,none⟩),.pointer (some ⟨b3,0,none⟩)] w fun e w'=>e=.returned (.bool (decide (zBO ks[j] d=1)))∧Below w.heap.size w w':=by
 have HV:=Lib.hid hv;obtain⟨b,off,c,rfl,_,Hat⟩:=hv.at (by intro h;rw[h] at hj;exact absurd hj (Nat.not_lt_zero _));have hji:((j:Nat):Int)<(ks.length:Nat):=by omega
 have hat0:Hid (∀w',Below w.heap.size w w'→CellsAt w' b (off+j*32) (zAJ ks[j])):=fun w' hb=>Hat.out w' hb j hj
 have HB:=Lib.hid (fun wx=>zIC ks[j] hk (d:Nat) wx);rw[zJH hd] at HB;have HL0:=Lib.hid hk.len;have hbt:=zeroOneBit ks[j] d;generalize ks[j]=k0 at *;have hl2:=zAS h2;have hl3:=zAS h3;clear hv Hat hk;have st:=St.init w;have q:∀wx,Below w.heap.size w wx→wx.cell? ⟨b2,0,none⟩=some (.slice (some ⟨b,off,none⟩) ks.length c)∧wx.cell? ⟨b3,0,none⟩=some (.int .i64 (d:Nat)):=fun wx h=>⟨(h.cell hl2).trans h2,(h.cell hl3).trans h3⟩
 rcases hbt with hbt | hbt
 ·rw[hbt] at HB ⊢
  go_enter Tryz.func210,Tryz.ntmps210;go_wp2;refine Inv.wp_region_inv 8 (fun wx=>Below w.heap.size w wx) zBL (by kernel_rfl) (Below.refl _ _).drew ?_;simp only[List.take_succ_cons,List.take_zero,List.drop_succ_cons,List.drop_zero]
  iterate 3
   (refine Inv.wpInv_step (fun K hK=>?_);go_simp;apply zAL;· (intro wx hw;have q1:=q wx hw;go_simp;(try go_ints);(try go_simp);(try (rw[if_pos (by omega)]));(try go_simp);(first | done | rfl))
    refine hK _ ?_;clear hK K)
  (refine Inv.wpInv_step (fun K hK=>?_);go_simp;refine zHD 37 _ rfl b (off+j*32) rfl zBN (zAJ k0) (by rw[zAI,HL0.out];exact zBC) (fun wx hw=>hat0.out wx hw) ?_;rw[zBK]
   refine hK _ ?_;clear hK K)
  iterate 1
   (refine Inv.wpInv_step (fun K hK=>?_);go_simp;apply zAL;· (intro wx hw;have q1:=q wx hw;go_simp;(try go_ints);(try go_simp);(try (rw[if_pos (by omega)]));(try go_simp);(first | done | rfl))
    refine hK _ ?_;clear hK K)
  (refine Inv.wpInv_step (fun K hK=>?_);go_simp;refine⟨.int .i64 ((0:Nat):Int),zDM 79 #[.agg (kv k0),.int .i64 (d:Nat)] (fun wx _=>by go_simp) (fun wx hw=>(HB.out wx).mono (fun e w' h=>⟨h.1,hw.trans (h.2.mono hw.size)⟩)),?_⟩
   refine hK _ ?_;clear hK K)
  iterate 2
   (refine Inv.wpInv_step (fun K hK=>?_);go_simp;apply zAL;· (intro wx hw;go_simp;(try go_ints);(try go_simp);(try (rw[if_pos (by omega)]));(try go_simp);(first | done | rfl))
    refine hK _ ?_;clear hK K)
  refine Inv.wpInv_nil ?_;intro w5 hb5;go_wp2;go_ret;exact⟨rfl,hb5⟩
 ·rw[hbt] at HB ⊢
  go_enter Tryz.func210,Tryz.ntmps210;go_wp2;refine Inv.wp_region_inv 8 (fun wx=>Below w.heap.size w wx) zBL (by kernel_rfl) (Below.refl _ _).drew ?_;simp only[List.take_succ_cons,List.take_zero,List.drop_succ_cons,List.drop_zero]
  iterate 3
   (refine Inv.wpInv_step (fun K hK=>?_);go_simp;apply zAL;· (intro wx hw;have q1:=q wx hw;go_simp;(try go_ints);(try go_simp);(try (rw[if_pos (by omega)]));(try go_simp);(first | done | rfl))
    refine hK _ ?_;clear hK K)
  (refine Inv.wpInv_step (fun K hK=>?_);go_simp;refine zHD 37 _ rfl b (off+j*32) rfl zBN (zAJ k0) (by rw[zAI,HL0.out];exact zBC) (fun wx hw=>hat0.out wx hw) ?_;rw[zBK]
   refine hK _ ?_;clear hK K)
  iterate 1
   (refine Inv.wpInv_step (fun K hK=>?_);go_simp;apply zAL;· (intro wx hw;have q1:=q wx hw;go_simp;(try go_ints);(try go_simp);(try (rw[if_pos (by omega)]));(try go_simp);(first | done | rfl))
    refine hK _ ?_;clear hK K)
  (refine Inv.wpInv_step (fun K hK=>?_);go_simp;refine⟨.int .i64 ((1:Nat):Int),zDM 79 #[.agg (kv k0),.int .i64 (d:Nat)] (fun wx _=>by go_simp) (fun wx hw=>(HB.out wx).mono (fun e w' h=>⟨h.1,hw.trans (h.2.mono hw.size)⟩)),?_⟩
   refine hK _ ?_;clear hK K)
  iterate 2
   (refine Inv.wpInv_step (fun K hK=>?_);go_simp;apply zAL;· (intro wx hw;go_simp;(try go_ints);(try go_simp);(try (rw[if_pos (by omega)]));(try go_simp);(first | done | rfl))
    refine hK _ ?_;clear hK K)
  refine Inv.wpInv_nil ?_;intro w5 hb5;go_wp2;go_ret;exact⟨rfl,hb5⟩
set_option maxRecDepth 20000 in
theorem Search_calls(f:Nat→Bool)(n:Nat)(hn:n≤100000)(c2 c3:Value)(w:World)(hmono:∀x y,x≤y→y<n→f x=true→f y=true)
  (hf:∀j wx,j<n→Below w.heap.size w wx→Calls Tryz.prog 210 #[.int .i64 (j:Nat),c2,c3] wx fun e w'=>e=.returned (.bool (f j))∧Below wx.heap.size wx w') :
  Calls Tryz.prog 209 #[.int .i64 (n:Nat),.func (.func 210) #[] #[c2,c3]] w fun e w'=>∃s:Nat,e=.returned (.int .i64 (s:Nat))∧s≤n∧(∀x<s,f x=false)∧(∀x,s≤x→x<n→f x=true)∧Below w.heap.size w w':=by
 have HF:=Lib.hid hf;have HM:=Lib.hid hmono;have hni:((n:Nat):Int)≤100000:=by omega
 clear hf hmono;have st:=St.init w;go_enter Tryz.func209,Tryz.ntmps209;go_wp2
 go_loopw [5,6] (fun i j wr=>∃x y:Nat,i=.int .i64 (x:Nat)∧j=.int .i64 (y:Nat)∧x≤y∧y≤n∧Hid (∀z<x,f z=false)∧Hid (∀z,y≤z→z<n→f z=true)∧St w.heap.size w [] wr) (fun i j _=>(intOf j - intOf i).toNat)
 case atStart=>exact⟨0,n,rfl,rfl,Nat.zero_le _,Nat.le_refl _,fun z hz=>absurd hz (Nat.not_lt_zero _),fun z h1 h2=>absurd h2 (by omega),st⟩
 case round =>
  obtain⟨x,y,rfl,rfl,hxy,hyn,H0,H1,st3⟩:=hrel;clear st
  by_cases hlt:x<y
  ·have hlti:((x:Nat):Int)<(y:Nat):=by omega
   have hx0:(0:Int)≤(x:Nat):=by omega
   have hyi:((y:Nat):Int)≤100000:=by omega
   have hs0:(0:Int)≤(x:Nat)+(y:Nat):=by omega
   have hs1:((x:Nat):Int)+(y:Nat)≤200000:=by omega
   have hm:(((x+y) / 2:Nat):Int)=((x:Nat)+(y:Nat)) / 2:=by omega
   have HFm:=Lib.hid (fun wx hb=>HF.out ((x+y) / 2) wx (by omega) hb);rw[hm] at HFm;have hd0:(0:Int)≤((x:Nat)+(y:Nat)) / 2:=by omega
   have hd1:((x:Nat)+(y:Nat):Int) / 2≤100000:=by omega
   cases hfm:f ((x+y) / 2) with
   |false =>
    rw[hfm] at HFm
    go_wp2_with (first
     |(go_at_call 210;refine(HFm.out _ st3.below).mono ?_;rintro e w4 ⟨rfl,hb4⟩;have st4:=st3.call hb4;clear st3 hb4))
    go_roundw
    case rel =>
     refine⟨(x+y) / 2+1,y,by first | rfl | (congr 1;omega),rfl,by omega,hyn,fun z hz=>?_,H1,st4⟩
     cases hz2:f z with
     |false=>rfl
     |true=>rw[HM.out z ((x+y) / 2) (by omega) (by omega) hz2] at hfm;cases hfm
    case measure=>simp[intOf];omega
   |true =>
    rw[hfm] at HFm
    go_wp2_with (first
     |(go_at_call 210;refine(HFm.out _ st3.below).mono ?_;rintro e w4 ⟨rfl,hb4⟩;have st4:=st3.call hb4;clear st3 hb4))
    go_roundw
    case rel =>
     refine⟨x,(x+y) / 2,rfl,by first | rfl | (congr 1;omega),by omega,by omega,H0,fun z hz1 hz2=>?_,st4⟩;exact HM.out ((x+y) / 2) z hz1 hz2 hfm
    case measure=>simp[intOf];omega
  ·obtain rfl:x=y:=by omega
   go_wp2;go_ret;exact⟨x,rfl,hyn,H0.out,H1.out,st3.below⟩
set_option maxRecDepth 20000 in
theorem Split_calls(ks:List (List Nat))(v:Value)(d:Nat)(hd:d<256)(w:World)(hk:∀k∈ks,Key k)(hn:ks.length≤100000)(hv:RdKs w v ks)(hmono:∀x y (hx:x<ks.length) (hy:y<ks.length),x≤y→zBO ks[x] d=1→zBO ks[y] d=1) :
  Calls Tryz.prog 184 #[v,.int .i64 (d:Nat)] w fun e w'=>∃s:Nat,e=.returned (.int .i64 (s:Nat))∧s≤ks.length∧(∀x (hx:x<ks.length),x<s→zBO ks[x] d=0)∧(∀x (hx:x<ks.length),s≤x→zBO ks[x] d=1)∧Below w.heap.size w w':=by
 have HV:=Lib.hid hv;obtain⟨a,c,rfl,_⟩:=hv.form;have HK:=Lib.hid hk;have HS:Hid (∀b2 b3 wx,Below w.heap.size w wx→wx.cell? ⟨b2,0,none⟩=some (.slice a ks.length c)→wx.cell? ⟨b3,0,none⟩=some (.int .i64 (d:Nat)) →
   Calls Tryz.prog 209 #[.int .i64 (ks.length:Nat),.func (.func 210) #[] #[.pointer (some ⟨b2,0,none⟩),.pointer (some ⟨b3,0,none⟩)]] wx fun e w'=>∃s:Nat,e=.returned (.int .i64 (s:Nat))∧s≤ks.length∧(∀x (hx:x<ks.length),x<s→zBO ks[x] d=0)∧(∀x (hx:x<ks.length),s≤x→zBO ks[x] d=1)∧Below wx.heap.size wx w'):=fun b2 b3 wx hb h2 h3=>by
  have hval:∀x (hx:x<ks.length),(if h:x<ks.length then decide (zBO ks[x] d=1) else true)=decide (zBO ks[x] d=1):=fun x hx=>by
   rw[dif_pos hx]
  refine(Search_calls (fun j=>if h:j<ks.length then decide (zBO ks[j] d=1) else true) ks.length hn _ _ wx ?_ ?_).mono ?_
  ·intro x y hxy hy hx
   rw[hval y hy];rw[hval x (by omega)] at hx;exact decide_eq_true (hmono x y (by omega) hy hxy (of_decide_eq_true hx))
  ·intro j wy hj hby
   rw[hval j hj];exact SplitFn_calls ks (.slice a ks.length c) d hd b2 b3 j hj wy (HK.out _ (List.getElem_mem _)) (HV.out.call (hb.trans (hby.mono hb.size))) ((hby.cell (zAS h2)).trans h2) ((hby.cell (zAS h3)).trans h3)
  ·rintro e w' ⟨s,rfl,hs,h0,h1,hbb⟩
   refine⟨s,rfl,hs,fun x hx hxs=>?_,fun x hx hxs=>?_,hbb⟩
   ·have h:=h0 x hxs
    rw[hval x hx] at h;have h5:¬zBO ks[x] d=1:=by simpa using h
    have:=zCQ ks[x] d;omega
   ·have h:=h1 x hxs hx
    rw[hval x hx] at h
    simpa using h
 clear hv hk hmono;have st:=St.init w;go_enter Tryz.func184,Tryz.ntmps184
 go_wp2_with (first
  |(refine zCO st rfl 299 _ rfl (.slice a ks.length c) rfl ?_;intro b2 w1 st1;clear st)
  |(refine zCO st1 rfl 3 _ rfl (.int .i64 (d:Nat)) rfl ?_;intro b3 w2 st2;clear st1;have hc2:=st2.cell (i:=1) rfl 0)
  |(go_at_call 209;refine(HS.out b2 b3 _ st2.below (st2.cell (i:=1) rfl 0) (st2.cell (i:=0) rfl 0)).mono ?_;rintro e w3 ⟨s,rfl,hs,h0,h1,hb3⟩;have st3:=st2.call hb3;have H0:=Lib.hid h0;have H1:=Lib.hid h1;clear st2 hb3 h0 h1))
 go_ret;exact⟨s,rfl,hs,H0.out,H1.out,st3.below⟩
end
section
set_option maxHeartbeats 2000000
open Go Go.RowKit
attribute [local irreducible] Inv.wpInv Mix.wpUp
section
variable {P:Program} {ops:Array Oper} {rest:List Oper} {o:Oper} {a:Act} {w w0:World} {Q:Exit→Act→World→Prop} {B:Nat} {L:List (Nat×Array Value×TypeId)}
theorem wpList_appendSrc{base:Nat}(st:St B w0 L w)(v:Value)(hL:∀p∈L,v.ownBlock≠some p.1)(hB:B≤base)(hgd:o.guard=none)(s x:Operand)(t:TypeId)
  (ho:o.op=.call {callee:=.builtin .append,args:=#[s,x],argTypes:=#[t,t]}) (e:TypeId) (z:Value) (size bytes:Nat) (ht:P.underlying t=some (.slice e))
  (hz:(P.info? e).bind (·.zero)=some z) (hsize:(P.info? e).map (·.size)=some size) (hby:(P.info? e).map (·.bytes)=some bytes) (hzs:z.cells.size=size) (hsz:0<size)
  (n:Nat) (xs:List Value) (hs:a.eval s=v) (hown:w.ownsRow base e size v n xs)
  (b off m c:Nat) (news:List Value) (hx:a.eval x=.slice (some ⟨b,off,none⟩) m c) (hl:news.length=m*size) (hb:CellsAt w b off news) (h1:∀u∈news,u.oneCell'=true)
  (h63:n+m≤maxLen) (hbytes:(n+m)*bytes≤140737488355328) (hbase:base≤w.heap.size)
  (h:∀v' w1,St B w0 L w1→w1.ownsRow base e size v' (n+m) (xs++news)→w.grownBy w1 v.ownBlock→wpList P ops Q rest (a.put o.dst v') w1):wpList P ops Q (o::rest) a w:=by
 cases hq:P.info? e with
 |none=>simp[hq] at hz
 |some i =>
  refine wpList_append_own w hgd s x t ho base e i z size bytes ht hq (by simpa[hq] using hz) (by simpa[hq] using hsize) (by simpa[hq] using hby) hzs hsz v n xs hs hown ⟨b,off,none⟩ m c news hx hl (fun j u hu=>?_) h1 h63 hbytes hbase (fun v' w' g1 g2 _=>?_)
  ·have hadd:(⟨b,off,none⟩:Addr).add j=⟨b,off+j,none⟩:=by unfold Addr.add;split<;>simp_all
   rw[hadd];exact hb j u hu
  ·exact h v' w' (st.grownNe g2 (fun k hk=>Nat.le_trans hB (hown.lt k hk).1) hL) g1 g2
end
theorem RdG.flat{α:Type}{sz:Nat}{f:α→List Value}{w:World}{l:List α}(hs:0<sz)(hl:∀x∈l,(f x).length=sz){b off:Nat}(h:∀i (hi:i<l.length),CellsAt w b (off+i*sz) (f l[i])):CellsAt w b off (l.flatMap f):=fun j v hv=>by
 have hj:j<l.length*sz:=by
  have:=(List.getElem?_eq_some_iff.1 hv).1
  rwa [zEW hl] at this
 have hi:j / sz<l.length:=Nat.div_lt_of_lt_mul (by rwa [Nat.mul_comm]);have h1:=flatG_at hl (j / sz) hi;have h2:(f l[j / sz])[j%sz]?=some v:=by
  rw[←h1,List.getElem?_take,if_pos (Nat.mod_lt _ hs),List.getElem?_drop];have e:j / sz*sz+j%sz=j:=by rw[Nat.mul_comm];exact Nat.div_add_mod j sz
  rw[e];exact hv
 have h3:=h (j / sz) hi (j%sz) v h2;have e:off+j / sz*sz+j%sz=off+j:=by
  have e:j / sz*sz+j%sz=j:=by rw[Nat.mul_comm];exact Nat.div_add_mod j sz
  omega
 rwa [e] at h3
theorem flat_one(cs:List Chg):∀u∈cs.flatMap chc,u.oneCell'=true:=fun u hu=>by
 obtain⟨c,_,hc⟩:=List.mem_flatMap.1 hu;exact zJG c u (by simpa using hc)
theorem KeysCh.lens{cs:List Chg}(h:KeysCh cs):∀c∈cs,(chc c).length=34:=fun c hc=>zFK c (h c hc).len
theorem eqSlC(a:Addr)(n c:Nat)(w:World):(Go.binOp .eql 235 (.slice (some a) n c) (.slice none 0 0)).run Tryz.prog w=.ok (.bool false) w:=by kernel_rfl
set_option maxRecDepth 20000 in
theorem CloneCh_calls(cs:List Chg)(v:Value)(w:World)(hne:cs≠[])(hk:KeysCh cs)(hn:cs.length≤100000)(hv:RdCh w v cs) :
  Calls Tryz.prog 182 #[v] w fun e w'=>∃v',e=.returned v'∧w'.ownsRow w.heap.size 276 34 v' cs.length (cs.flatMap chc)∧Below w.heap.size w w':=by
 obtain⟨b,off,c,rfl,_,Hat⟩:=hv.at hne;have HFl:Hid (∀w',Below w.heap.size w w'→CellsAt w' b off (cs.flatMap chc)):=fun w' hb=>RdG.flat (by decide) hk.lens (Hat.out w' hb)
 have HL:=Lib.hid (zEW hk.lens);have H1:=Lib.hid (flat_one cs);have hq:=eqSlC ⟨b,off,none⟩ cs.length c w;clear hv Hat hk;generalize cs.flatMap chc=fl at *;have st:=St.init w;go_enter Tryz.func182,Tryz.ntmps182
 go_wp2_with (first
  |(refine zFM st rfl 235 rfl 276 zDE 34 zCD ?_;intro v1 w1 st1 hown1;clear st)
  |(at_builtin;(refine wpList_appendSrc (base:=w.heap.size) st1 v1 (fun p hp=>(List.not_mem_nil hp).elim) (Nat.le_refl _) rfl _ _ 235 rfl 276 _ 34 64 zDE zeroCh zCD bytesCh rfl (by decide) _ _ rfl hown1 b off cs.length c fl rfl HL.out (HFl.out _ st1.below) H1.out (by unfold maxLen;omega) (by omega) st1.size ?_);intro v3 w3 st3 hown3 _;clear st1))
 go_ret;exact⟨_,rfl,by simpa using hown3,st3.below⟩
set_option maxRecDepth 20000 in
theorem IndexFunc_calls(cs:List Chg)(v:Value)(w:World)(hk:KeysCh cs)(hn:cs.length≤100000)(hv:RdCh w v cs) :
  Calls Tryz.prog 208 #[v,.func (.func 183) #[] #[]] w fun e w'=>Below w.heap.size w w' ∧
   ((e=.returned (.int .i64 (-1))∧∀c∈cs,c.del=false)∨∃i:Nat,∃h:i<cs.length,e=.returned (.int .i64 (i:Nat))∧cs[i].del=true∧∀c∈cs.take i,c.del=false):=by
 have HV:=Lib.hid hv;obtain⟨a,c,rfl,_⟩:=hv.form;have HK:=Lib.hid hk;have hni:((cs.length:Nat):Int)≤100000:=by omega
 clear hv hk;have st:=St.init w;go_enter Tryz.func208,Tryz.ntmps208;go_wp2
 go_loopw [8] (fun i wr=>∃j:Nat,j≤cs.length∧i=.int .i64 (j:Nat)∧Hid (∀c∈cs.take j,c.del=false)∧St w.heap.size w [] wr) (fun i _=>((cs.length:Int) - intOf i).toNat)
 case atStart=>exact⟨0,Nat.zero_le _,rfl,fun c hc=>(List.not_mem_nil hc).elim,st⟩
 case round =>
  obtain⟨j,hj,rfl,Hno,st3⟩:=hrel;clear st
  by_cases hlt:j<cs.length
  ·have hji:((j:Nat):Int)<(cs.length:Nat):=by omega
   obtain⟨b,off,c',hva,_,Hat⟩:=HV.out.at (by intro h;rw[h] at hlt;exact absurd hlt (Nat.not_lt_zero _));obtain⟨rfl,rfl⟩:a=some ⟨b,off,none⟩∧c=c':=by injection hva with h1 h2 h3;exact⟨h1,h3⟩
   have hk1:=(HK.out cs[j] (List.getElem_mem _)).len;have hat:Hid (∀w',Below w.heap.size w w'→CellsAt w' b (off+j*34) (chc cs[j])):=fun w' hb=>Hat.out w' hb j hlt
   have hsn:cs[j].del=false→∀c∈cs.take (j+1),c.del=false:=fun h c hc=>by
    rw[List.take_add_one,List.getElem?_eq_getElem hlt,Option.toList_some] at hc;rcases List.mem_append.1 hc with hc | hc
    ·exact Hno.out c hc
    ·rw[List.mem_singleton.1 hc];exact h
   have hyes:cs[j].del=true→∃h:j<cs.length,cs[j].del=true:=fun h=>⟨hlt,h⟩
   have HSn:=Lib.hid hsn;have HYes:=Lib.hid hyes;generalize cs[j]=x at *;have HL:=Lib.hid (zFK x hk1);have HF:=Lib.hid (fun wx=>delFn_calls x hk1 wx);clear hva Hat hk1 hsn hyes
   cases hd:x.del with
   |true =>
    rw[hd] at HF HYes
    go_wp2_with (first
     |((with_reducible refine zBA 276 ?_);refine zBR rfl 276 _ rfl b (off+j*34) rfl aggCh (chc x) (by rw[HL.out];exact zCD) (hat.out _ st3.below) ?_)
     |(go_at_call 183;refine(HF.out _).mono ?_;rintro e w6 ⟨rfl,hb6⟩;have st6:=st3.call hb6;clear st3 hb6))
    go_ret;obtain⟨h1,h2⟩:=HYes.out (by trivial);exact⟨st6.below,.inr ⟨j,h1,rfl,h2,Hno.out⟩⟩
   |false =>
    rw[hd] at HF HSn
    go_wp2_with (first
     |((with_reducible refine zBA 276 ?_);refine zBR rfl 276 _ rfl b (off+j*34) rfl aggCh (chc x) (by rw[HL.out];exact zCD) (hat.out _ st3.below) ?_)
     |(go_at_call 183;refine(HF.out _).mono ?_;rintro e w6 ⟨rfl,hb6⟩;have st6:=st3.call hb6;clear st3 hb6))
    go_roundw
    case rel=>exact⟨j+1,hlt,rfl,HSn.out (by trivial),st6⟩
    case measure=>simp[intOf];omega
  ·obtain rfl:j=cs.length:=by omega
   rw[List.take_length] at Hno;go_wp2;go_ret;exact⟨st3.below,.inl ⟨rfl,Hno.out⟩⟩
end
section
set_option maxHeartbeats 4000000
open Go Go.RowKit
attribute [local irreducible] Inv.wpInv Mix.wpUp
section
variable {P:Program} {ops:Array Oper} {rest:List Oper} {o:Oper} {a:Act} {w w0:World} {Q:Exit→Act→World→Prop}
theorem wpList_clearN(hgd:o.guard=none)(x:Operand)(t e:TypeId)(ho:o.op=.call {callee:=.builtin .clear,args:=#[x],argTypes:=#[t]})(ht:P.underlying t=some (.slice e))(zc:Array Value)(hz:(P.info? e).bind (·.zero)=some (.agg zc))(sz:Nat)(hzs:zc.size=sz)(hsz:0<sz)
  (h1:∀u∈zc.toList,u.oneCell'=true) (g off m c:Nat) (hx:a.eval x=.slice (some ⟨g,off,none⟩) m c) (hm:0<m) (cur:Array Value) (ty:TypeId) (hrow:w.heap[g]?=some (.cells cur ty (0,0))) (hle:off+m*sz≤cur.size)
  (h:∀(zs:Array Value),zs.size=m*sz→w.grownBy (w.setRow g (zCT cur off (.agg zs))) (some g)→(w.setRow g (zCT cur off (.agg zs))).heap[g]?=some (.cells (zCT cur off (.agg zs)) ty (0,0))→wpList P ops Q rest (a.put o.dst (.tuple #[])) (w.setRow g (zCT cur off (.agg zs)))):wpList P ops Q (o::rest) a w:=by
 refine wpList_plain hgd fun K hK=>?_
 cases hq:P.info? e with
 |none=>simp[hq] at hz
 |some i =>
  have hi:i.zero=some (.agg zc):=by simpa[hq] using hz
  have hsize:(Builtin.zeroCells zc m).size=m*sz:=by simp[Builtin.zeroCells,hzs]
  have hone:∀v∈(Builtin.zeroCells zc m).toList,v.oneCell'=true:=fun v hv=>by
   simp only[Builtin.zeroCells,Array.toList_map,List.mem_map,Array.toList_range,List.mem_range] at hv;obtain⟨j,_,rfl⟩:=hv;have hj:j%zc.size<zc.size:=Nat.mod_lt _ (by omega);rw[getElem!_pos zc _ hj];exact h1 _ (by simp)
  have hst:=run_storeCells_at P g off ty (Builtin.zeroCells zc m).toList 0 cur w hrow (by simp only[Array.length_toList,hsize];omega) hone;have e1:(cur.toList.take (off+0)++(Builtin.zeroCells zc m).toList++cur.toList.drop (off+0+(Builtin.zeroCells zc m).toList.length)).toArray=zCT cur off (.agg (Builtin.zeroCells zc m)):=by
   unfold zCT;simp[Value.cells]
  rw[e1] at hst;obtain⟨m',rfl⟩:∃m',m=m'+1:=⟨m - 1,by omega⟩
  have hzv:(zeroValue e).run P w=.ok (.agg zc) w:=by simp[zeroValue,typeInfo,hq,hi]
  have hrun:(Builtin.clear_ #[t] o.type #[.slice (some ⟨g,off,none⟩) (m'+1) c]).run P w=.ok (.tuple #[]) (w.setRow g (zCT cur off (.agg (Builtin.zeroCells zc (m'+1))))):=by
   simp[Builtin.clear_,run_underlying ht,hzv,Value.cells,hst]
  unfold Oper.wp execOp;simp only[ho,resolve,invoke,builtin,Sem.run_bind,Sem.run_pure,Result.andThen_ok,List.map_toArray,List.map_cons,List.map_nil,hx,hrun,Oper.upon];exact hK _ _ (h _ hsize (zHX _ _ _) (setRow_heap _ _ _ _ _ _ hrow))
end
def kept(cs:List Chg):List Chg:=cs.filter fun c=>!c.del
theorem kept_succ(cs:List Chg)(j:Nat)(hj:j<cs.length):kept (cs.take (j+1))=if cs[j].del then kept (cs.take j) else kept (cs.take j)++[cs[j]]:=by
 unfold kept;rw[filter_snoc _ _ _ hj]
 cases cs[j].del<;>rfl
theorem kept_le(cs:List Chg)(j:Nat):(kept (cs.take j)).length≤j:=Nat.le_trans (List.length_filter_le _ _) (by rw[List.length_take];exact Nat.min_le_left _ _)
def zHF(cs:List Chg)(j:Nat):List Chg:=kept (cs.take j)++cs.drop (kept (cs.take j)).length
theorem delRow_len(cs:List Chg)(j:Nat)(hj:j≤cs.length):(zHF cs j).length=cs.length:=by
 have:=kept_le cs j;unfold zHF;rw[List.length_append,List.length_drop];omega
theorem delRow_at(cs:List Chg)(j:Nat)(hj:j<cs.length)(h':j<(zHF cs j).length):(zHF cs j)[j]=cs[j]:=by
 have:=kept_le cs j;rw[List.getElem_eq_iff];unfold zHF;rw[List.getElem?_append_right this,List.getElem?_drop,show (kept (cs.take j)).length+(j - (kept (cs.take j)).length)=j by omega,List.getElem?_eq_getElem hj]
theorem put_flat(A B:List Chg)(y x:Chg)(cur:Array Value)(N:Nat)(hA:∀c∈A,(chc c).length=34)(hy:(chc y).length=34)(hx:(chc x).length=34)(hB:∀c∈B,(chc c).length=34)(hN:N=(A.length+1+B.length)*34)
  (h:cur.toList.take N=(A++y::B).flatMap chc) (hs:N≤cur.size):(zCT cur (A.length*34) (.agg (chc x).toArray)).toList.take N=(A++x::B).flatMap chc∧(zCT cur (A.length*34) (.agg (chc x).toArray)).size=cur.size:=by
 have lA:=zEW hA;have lB:=zEW hB;rw[List.flatMap_append,List.flatMap_cons] at h ⊢;have hlen:cur.toList.length=cur.size:=by simp
 have e1:cur.toList.take (A.length*34)=A.flatMap chc:=by
  have:=congrArg (List.take (A.length*34)) h;rw[List.take_take,Nat.min_eq_left (by omega),List.take_left' lA] at this;exact this
 have e2:(cur.toList.drop (A.length*34+34)).take (B.length*34)=B.flatMap chc:=by
  have:=congrArg (List.drop (A.length*34+34)) h;rw[List.drop_take,←List.append_assoc,List.drop_left' (by rw[List.length_append,lA,hy])] at this;rw[←this]
  congr 1
  omega
 constructor
 ·unfold zCT
  have hc:(Value.agg (chc x).toArray).cells.toList=chc x:=by simp[Value.cells]
  have hcs:(Value.agg (chc x).toArray).cells.size=34:=by simp[Value.cells,hx]
  rw[hc,hcs,e1]
  show (A.flatMap chc++(chc x++cur.toList.drop (A.length*34+34))).take N=_
  rw[List.take_append,lA,List.take_of_length_le (by rw[lA];omega),List.take_append,hx,List.take_of_length_le (by rw[hx];omega)]
  congr 2
  rw[←e2]
  congr 1
  omega
 ·have hcs:(Value.agg (chc x).toArray).cells.size=34:=by simp[Value.cells,hx]
  have hcl:(Value.agg (chc x).toArray).cells.toList.length=34:=by simpa using hcs
  unfold zCT;rw[List.size_toArray,List.length_append,List.length_append,List.length_take,List.length_drop,hlen,hcl,hcs];omega
theorem delRow_put(cs:List Chg)(j:Nat)(hj:j<cs.length)(hk:KeysCh cs)(cur:Array Value)(hs:cs.length*34≤cur.size)(h:cur.toList.take (cs.length*34)=(zHF cs j).flatMap chc)(hd:cs[j].del=false) :
  (zCT cur ((kept (cs.take j)).length*34) (.agg (chc cs[j]).toArray)).toList.take (cs.length*34)=(zHF cs (j+1)).flatMap chc∧(zCT cur ((kept (cs.take j)).length*34) (.agg (chc cs[j]).toArray)).size=cur.size:=by
 have hle:=kept_le cs j;have hlt:(kept (cs.take j)).length<cs.length:=by omega
 have e:zHF cs (j+1)=kept (cs.take j)++cs[j]::cs.drop ((kept (cs.take j)).length+1):=by
  unfold zHF;rw[kept_succ cs j hj,hd];simp
 rw[e];refine put_flat (kept (cs.take j)) (cs.drop ((kept (cs.take j)).length+1)) (cs[(kept (cs.take j)).length]) (cs[j]) cur (cs.length*34) (fun c hc=>hk.lens c (List.mem_of_mem_take (List.mem_filter.1 hc).1)) (hk.lens _ (List.getElem_mem _)) (hk.lens _ (List.getElem_mem _)) (fun c hc=>hk.lens c (List.mem_of_mem_drop hc)) (by rw[List.length_drop];congr 1;omega) ?_ hs;rw[h];unfold zHF;rw[List.drop_eq_getElem_cons hlt]
theorem zHE{w w':World}{row:Option Nat}(h:Below w.heap.size w w'):w.grownBy w' row:=⟨h.os,h.tape,h.output,h.size,fun k hk _=>h.block k hk⟩
theorem rowAt{w:World}{g:Nat}{cur:Array Value}{N:Nat}{L:List Chg}(hL:∀c∈L,(chc c).length=34)(hrow:w.heap[g]?=some (.cells cur 276 (0,0)))(h:cur.toList.take N=L.flatMap chc)(hN:N=L.length*34)(i:Nat)(hi:i<L.length):CellsAt w g (i*34) (chc L[i]):=by
 have h1:=flatG_at hL i hi;rw[←h,List.drop_take,List.take_take] at h1;refine CellsAt.row (n:=34) hrow ?_;rw[←h1]
 congr 1
 have:i+1≤L.length:=hi;rw[hN];have e:L.length*34 - i*34=(L.length - i)*34:=by rw[Nat.sub_mul]
 omega
theorem notMinus(i:Nat):(((i:Nat):Int) == -1)=false:=by
 have h5:¬((i:Nat):Int) = -1:=by omega
 simp[h5]
def DelPost(g:Nat)(cs:List Chg)(w:World)(e:Ending)(w':World):Prop:=∃v',e=.returned v'∧RdCh w' v' (kept cs)∧w.grownBy w' (some g)
set_option maxRecDepth 20000 in
theorem DeleteFunc_calls(cs:List Chg)(g cap:Nat)(cur:Array Value)(w:World)(hk:KeysCh cs)(hn:cs.length≤100000)(hn0:0<cs.length)(hrow:w.heap[g]?=some (.cells cur 276 (0,0)))(hcap:cs.length≤cap)(hcap2:cap≤maxLen)(hsz:cur.size=cap*34)(htk:cur.toList.take (cs.length*34)=cs.flatMap chc) :
  Calls Tryz.prog 181 #[.slice (some ⟨g,0,none⟩) cs.length cap,.func (.func 183) #[] #[]] w (DelPost g cs w):=by
 have hrd:RdCh w (.slice (some ⟨g,0,none⟩) cs.length cap) cs:=⟨hk.lens,by omega,_,cap,rfl,hcap,fun _=>⟨g,0,rfl,fun i hi=>by rw[Nat.zero_add];exact rowAt hk.lens hrow htk rfl i hi⟩⟩
 have HK:=Lib.hid hk;have hni:((cs.length:Nat):Int)≤100000:=by omega
 have HI:=Lib.hid (IndexFunc_calls cs _ w hk hn hrd);have HP:Hid (∀(v':Value)(w':World),RdCh w' v' (kept cs)→w.grownBy w' (some g)→DelPost g cs w (.returned v') w'):=fun v' w' h1 h2=>⟨v',rfl,h1,h2⟩
 generalize DelPost g cs w=R at *;have HRd:=Lib.hid hrd;have Hrow:=Lib.hid hrow;have Htk:=Lib.hid htk;have hglt:=zAG hrow;clear hrd hk hrow htk;have hcap63:((cap:Nat):Int)≤9223372036854775807:=by unfold maxLen at hcap2;omega
 have hcs34:cs.length*34≤cur.size:=by rw[hsz];exact Nat.mul_le_mul_right _ hcap
 by_cases hall:∀c∈cs,c.del=false
 ·have HI1:Hid (Calls Tryz.prog 208 #[.slice (some ⟨g,0,none⟩) cs.length cap,.func (.func 183) #[] #[]] w fun e w'=>e=.returned (.int .i64 (-1))∧Below w.heap.size w w'):=HI.out.mono (fun e w' h=>by
   obtain⟨hb,h | ⟨i,hi,_,hd,_⟩⟩:=h
   ·exact⟨h.1,hb⟩
   ·rw[hall cs[i] (List.getElem_mem _)] at hd;cases hd)
  have e:kept cs=cs:=List.filter_eq_self.2 fun c hc=>by rw[hall c hc];rfl
  clear HI hall;go_enter Tryz.func181,Tryz.ntmps181
  go_wp2_with (first
   |(go_at_call 208;refine HI1.out.mono ?_;rintro e' w2 ⟨rfl,hb2⟩))
  refine HP.out _ _ ?_ (zHE hb2);rw[e];exact HRd.out.call hb2
 ·have HI1:Hid (Calls Tryz.prog 208 #[.slice (some ⟨g,0,none⟩) cs.length cap,.func (.func 183) #[] #[]] w fun e w'=>∃i:Nat,∃h:i<cs.length,e=.returned (.int .i64 (i:Nat))∧cs[i].del=true∧(∀c∈cs.take i,c.del=false)∧Below w.heap.size w w'):=HI.out.mono (fun e w' h=>by
   obtain⟨hb,h | ⟨i,hi,he,hd,hno⟩⟩:=h
   ·exact absurd h.2 hall
   ·exact⟨i,hi,he,hd,hno,hb⟩)
  clear HI hall;go_enter Tryz.func181,Tryz.ntmps181
  go_wp2_with (first
   |(go_at_call 208;refine HI1.out.mono ?_;rintro e w2 ⟨i,hi,rfl,hdi,hnoi,hb2⟩;have hib:=notMinus i))
  have hii:((i:Nat):Int)<(cs.length:Nat):=by omega
  have hrow2:=(hb2.block g hglt).trans Hrow.out;have e0:kept (cs.take i)=cs.take i:=List.filter_eq_self.2 fun c hc=>by rw[hnoi c hc];rfl
  have e1:kept (cs.take (i+1))=cs.take i:=by rw[kept_succ cs i hi,hdi,if_pos rfl,e0]
  have el:(cs.take i).length=i:=by rw[List.length_take,Nat.min_eq_left (by omega)]
  have e2:zHF cs (i+1)=cs:=by unfold zHF;rw[e1,el,List.take_append_drop]
  go_loopw [5,6] (fun x y wr=>∃(I J:Nat) (cu:Array Value),x=.int .i64 (I:Nat)∧y=.int .i64 (J:Nat)∧i+1≤J∧J≤cs.length∧I=(kept (cs.take J)).length∧I<J∧w.grownBy wr (some g)∧wr.heap[g]?=some (.cells cu 276 (0,0))∧cu.size=cap*34∧Hid (cu.toList.take (cs.length*34)=(zHF cs J).flatMap chc)) (fun _ y _=>((cs.length:Int) - intOf y).toNat)
  case atStart=>exact⟨i,i+1,cur,rfl,rfl,Nat.le_refl _,hi,by rw[e1,el],Nat.lt_succ_self _,zHE hb2,hrow2,hsz,by unfold Hid;rw[e2];exact Htk.out⟩
  case round =>
   obtain⟨I,J,cu,rfl,rfl,hiJ,hJ,hI,hIJ,hg,hr,hcs,Htk2⟩:=hrel;clear hrow2 e0 e1 e2 el hnoi hdi hii hb2;have hI1:I≤100000:=by omega
   by_cases hlt:J<cs.length
   ·have hji:((J:Nat):Int)<(cs.length:Nat):=by omega
    have hii:((I:Nat):Int)<(cs.length:Nat):=by omega
    have hk34:∀c∈zHF cs J,(chc c).length=34:=fun c hc=>by
     rcases List.mem_append.1 hc with hc | hc
     ·exact HK.out.lens c (List.mem_of_mem_take (List.mem_filter.1 hc).1)
     ·exact HK.out.lens c (List.mem_of_mem_drop hc)
    have hlen:=delRow_len cs J hJ;have hat:=rowAt hk34 hr Htk2.out (by rw[hlen]) J (by rw[hlen];exact hlt);rw[delRow_at cs J hlt] at hat;have hk1:=(HK.out cs[J] (List.getElem_mem _)).len;have hput:cs[J].del=false→_:=fun hd=>delRow_put cs J hlt HK.out cu (by rw[hcs,←hsz];exact hcs34) Htk2.out hd
    have hks:=kept_succ cs J hlt;have hds:cs[J].del=true→zHF cs (J+1)=zHF cs J:=fun hd=>by unfold zHF;rw[hks,hd,if_pos rfl]
    rw[←hI] at hput;generalize cs[J]=x at *;have HAt:=Lib.hid hat;have HPut:=Lib.hid hput;have HKs:=Lib.hid hks;have HDs:=Lib.hid hds;have HL:=Lib.hid (zFK x hk1);have HS:=Lib.hid (zDS x hk1);have H1:=Lib.hid (zJG x);have HF:=Lib.hid (fun wx=>delFn_calls x hk1 wx);have st:=St.init wr;have hgl:=zAG hr;have HI':=Lib.hid hI;clear hk34 hlen hat hput hks hds hk1 hI
    cases hd:x.del with
    |true =>
     rw[hd] at HF
     go_wp2_with (first
      |((with_reducible refine zBA 276 ?_);first
        |(refine zBR rfl 276 _ rfl g (J*34) rfl aggCh (chc x) (by rw[HL.out];exact zCD) HAt.out ?_)
        |(refine zAC rfl 276 _ rfl b7 rfl _ aggCh.choose_spec.1 aggCh.choose_spec.2 _ _ (st5.at (i:=0) rfl) (zHT HS.out) ?_))
      |((with_reducible refine zAW 276 ?_);refine zAE st rfl 276 rfl _ zeroCh ?_;intro b7 w4 st4;clear st)
      |((with_reducible refine zAN 276 ?_);refine zAA st4 rfl 276 _ _ rfl 0 b7 rfl (.agg (chc x).toArray) rfl _ _ rfl (zHT HS.out) (by show (chc x).toArray.size=_;rw[HS.out];rfl) H1.out _ rfl ?_;intro w5 st5;clear st4)
      |(go_at_call 183;refine(HF.out _).mono ?_;rintro e w6 ⟨rfl,hb6⟩;have st6:=st5.call hb6;clear st5 hb6))
     go_roundw
     case rel =>
      refine⟨I,J+1,cu,rfl,rfl,by omega,hlt,?_,by omega,hg.trans (zHE st6.below),(st6.below.block g hgl).trans hr,hcs,?_⟩
      ·rw[HKs.out,hd,if_pos rfl];exact HI'.out
      ·unfold Hid;rw[HDs.out hd];exact Htk2.out
     case measure=>simp[intOf];omega
    |false =>
     rw[hd] at HF;obtain⟨hp1,hp2⟩:=HPut.out hd;have Hp1:=Lib.hid hp1;have Hp2:=Lib.hid hp2;clear hp1 hp2
     go_wp2_with (first
      |((with_reducible refine zBA 276 ?_);first
        |(refine zBR rfl 276 _ rfl g (J*34) rfl aggCh (chc x) (by rw[HL.out];exact zCD) HAt.out ?_)
        |(refine zAC rfl 276 _ rfl b7 rfl _ aggCh.choose_spec.1 aggCh.choose_spec.2 _ _ (st5.at (i:=0) rfl) (zHT HS.out) ?_)
        |(refine zAC rfl 276 _ rfl b7 rfl _ aggCh.choose_spec.1 aggCh.choose_spec.2 _ _ (st6.at (i:=0) rfl) (zHT HS.out) ?_))
      |((with_reducible refine zAW 276 ?_);refine zAE st rfl 276 rfl _ zeroCh ?_;intro b7 w4 st4;clear st)
      |((with_reducible refine zAN 276 ?_);first
        |(refine zAA st4 rfl 276 _ _ rfl 0 b7 rfl (.agg (chc x).toArray) rfl _ _ rfl (zHT HS.out) (by show (chc x).toArray.size=_;rw[HS.out];rfl) H1.out _ rfl ?_;intro w5 st5;clear st4)
        |((refine wpList_storePX rfl 276 _ _ rfl g (I*34) rfl (.agg (chc x).toArray) rfl cu _ ((st6.below.block g hgl).trans hr) (zHT HS.out) (by show I*34+(chc x).toArray.size≤cu.size;rw[HS.out,hcs];omega) H1.out _ rfl ?_);intro w7 hg7 hrow7))
      |(go_at_call 183;refine(HF.out _).mono ?_;rintro e w6 ⟨rfl,hb6⟩;have st6:=st5.call hb6;clear st5 hb6))
     go_roundw
     case rel =>
      refine⟨I+1,J+1,_,rfl,rfl,by omega,hlt,?_,by omega,(hg.trans (zHE st6.below)).trans hg7,hrow7,Hp2.out.trans hcs,Hp1⟩;rw[HKs.out,hd,if_neg (by simp),List.length_append,←HI'.out];rfl
     case measure=>simp[intOf];omega
   ·obtain rfl:J=cs.length:=by omega
    have hkl:kept (cs.take cs.length)=kept cs:=by rw[List.take_length]
    rw[hkl] at hI;have hs1:∀wx,(Instr.slice 235 (.slice (some ⟨g,0,none⟩) cs.length cap) (some (.int .i64 (I:Nat))) none none).run Tryz.prog wx=.ok (.slice (some ⟨g,I*34,none⟩) (cs.length - I) (cap - I)) wx:=fun wx=>by
     have h:=zIY (P:=Tryz.prog) zDE zCD (some ⟨g,0,none⟩) cs.length cap .i64 I (by omega) (by omega) wx;have e:(some (⟨g,0,none⟩:Addr)).map (fun x=>x.add (I*34))=some ⟨g,I*34,none⟩:=by
      simp[Addr.add];intro h5;omega
     rw[e] at h;exact h
    have hs2:=zIK (P:=Tryz.prog) zDE zCD ⟨g,0,none⟩ cs.length cap .i64 I (by omega) rfl;have hfin:∀(zs:Array Value),zs.size=(cs.length - I)*34→∀wx:World,wx.heap[g]?=some (.cells (zCT cu (I*34) (.agg zs)) 276 (0,0))→RdCh wx (.slice (some ⟨g,0,none⟩) I cap) (kept cs):=fun zs hzs wx hrw=>by
     have hk34:∀c∈kept cs,(chc c).length=34:=fun c hc=>HK.out.lens c (List.mem_filter.1 hc).1
     have e3:zHF cs cs.length=kept cs++cs.drop I:=by unfold zHF;rw[hkl,←hI]
     have ht:=Htk2.out;rw[e3,List.flatMap_append] at ht;have hl:=zEW hk34;have e4:(zCT cu (I*34) (.agg zs)).toList.take (I*34)=(kept cs).flatMap chc:=by
      have h5:=congrArg (List.take (I*34)) ht;rw[List.take_take,Nat.min_eq_left (by omega),List.take_left' (by rw[hl,hI])] at h5;rw[←h5];unfold zCT
      show (cu.toList.take (I*34)++_).take (I*34)=_
      rw[List.take_left' (by rw[List.length_take,Array.length_toList,hcs];omega)]
     refine⟨hk34,by omega,some ⟨g,0,none⟩,cap,by rw[hI],by omega,fun _=>⟨g,0,rfl,fun y hy=>?_⟩⟩;rw[Nat.zero_add];exact rowAt hk34 hrw e4 (by rw[hI]) y hy
    have HFin:=Lib.hid hfin;have h34:(chc ⟨zAH,none,0,0,false⟩).toArray.size=34:=by simp[chc,zAI,zAH]
    have H34:=Lib.hid h34;have hin:((I:Nat):Int)≤(cs.length:Nat):=by omega
    clear hfin h34 hI hkl
    go_wp2_with (first
     |(with_reducible refine wpList_clearN rfl _ 235 276 rfl zDE _ zeroCh 34 H34.out (by decide) (zJG _) g (I*34) (cs.length - I) (cap - I) rfl (by omega) cu _ hr (by rw[hcs];omega) ?_;intro zs hzs hgz hrz))
    exact HP.out _ _ (HFin.out zs hzs _ hrz) (hg.trans hgz)
end
section
set_option maxHeartbeats 4000000
open Go Go.RowKit
attribute [local irreducible] Inv.wpInv Mix.wpUp
def BinPost(cs:List Chg)(k:List Nat)(w:World)(e:Ending)(w':World):Prop:=∃(s:Nat) (found:Bool),e=.returned (.tuple #[.int .i64 (s:Nat),.bool found])∧s≤cs.length∧(∀z (h:z<cs.length),z<s→zDV cs[z].k k<0)∧(∀z (h:z<cs.length),s≤z→0≤zDV cs[z].k k) ∧
 (found=true→∃h:s<cs.length,zDV cs[s].k k=0)∧(found=false→∀h:s<cs.length,zDV cs[s].k k≠0)∧Below w.heap.size w w'
set_option maxRecDepth 20000 in
theorem BinSearch_calls(cs:List Chg)(v:Value)(k:List Nat)(hkk:Key k)(w:World)(hk:KeysCh cs)(hn:cs.length≤100000)(hv:RdCh w v cs)(hmono:∀x y (hx:x<cs.length) (hy:y<cs.length),x≤y→zDV cs[y].k k<0→zDV cs[x].k k<0) :
  Calls Tryz.prog 205 #[v,.agg (kv k),.func (.func 206) #[] #[]] w (BinPost cs k w):=by
 have HP:Hid (∀(s:Nat)(found:Bool) (w':World),s≤cs.length→(∀z (h:z<cs.length),z<s→zDV cs[z].k k<0)→(∀z (h:z<cs.length),s≤z→0≤zDV cs[z].k k)→(found=true→∃h:s<cs.length,zDV cs[s].k k=0)→(found=false→∀h:s<cs.length,zDV cs[s].k k≠0)→Below w.heap.size w w'→BinPost cs k w (.returned (.tuple #[.int .i64 (s:Nat),.bool found])) w'):=fun s f w' h1 h2 h3 h4 h5 h6=>⟨s,f,rfl,h1,h2,h3,h4,h5,h6⟩
 generalize BinPost cs k w=R at *;have HV:=Lib.hid hv;obtain⟨a,c,rfl,_⟩:=hv.form;have HK:=Lib.hid hk;have HM:=Lib.hid hmono;have Hkk:=Lib.hid hkk.len;have HF:Hid (∀(x:Chg),Key x.k→∀wx,Calls Tryz.prog 206 #[.agg (chc x).toArray,.agg (kv k)] wx fun e w'=>e=.returned (.int .i64 (zDV x.k k))∧Below wx.heap.size wx w'):=fun x hx wx=>mergeFn_calls x hx k hkk wx
 have hni:((cs.length:Nat):Int)≤100000:=by omega
 clear hv hk hmono hkk;have st:=St.init w;go_enter Tryz.func205,Tryz.ntmps205
 go_wp2_with (first
  |(refine zAD st rfl 37 _ rfl (kv k) rfl ?_;intro b4 w1 st1;clear st))
 go_loopw [9,10] (fun i j wr=>∃x y:Nat,i=.int .i64 (x:Nat)∧j=.int .i64 (y:Nat)∧x≤y∧y≤cs.length∧Hid (∀z (h:z<cs.length),z<x→zDV cs[z].k k<0)∧Hid (∀z (h:z<cs.length),y≤z→0≤zDV cs[z].k k)∧St w.heap.size w [(b4,kv k,37)] wr) (fun i j _=>(intOf j - intOf i).toNat)
 case atStart=>exact⟨0,cs.length,rfl,rfl,Nat.zero_le _,Nat.le_refl _,fun z h hz=>absurd hz (Nat.not_lt_zero _),fun z h1 h2=>absurd h2 (by omega),st1⟩
 case round =>
  obtain⟨x,y,rfl,rfl,hxy,hyn,H0,H1,st3⟩:=hrel;clear st1
  by_cases hlt:x<y
  ·have hlti:((x:Nat):Int)<(y:Nat):=by omega
   have hx0:(0:Int)≤(x:Nat):=by omega
   have hyi:((y:Nat):Int)≤100000:=by omega
   have hs0:(0:Int)≤(x:Nat)+(y:Nat):=by omega
   have hs1:((x:Nat):Int)+(y:Nat)≤200000:=by omega
   have hm:((x:Nat)+(y:Nat):Int) / 2=(((x+y) / 2:Nat):Int):=by omega
   obtain⟨h,hh⟩:∃h:Nat,h=(x+y) / 2:=⟨_,rfl⟩
   have hhn:h<cs.length:=by omega
   have hhi:((h:Nat):Int)<(cs.length:Nat):=by omega
   have hxh:x≤h:=by omega
   have hhy:h<y:=by omega
   rw[←hh] at hm;clear hh;obtain⟨b,off,c',hva,_,Hat⟩:=HV.out.at (by intro h';rw[h'] at hhn;exact absurd hhn (Nat.not_lt_zero _));obtain⟨rfl,rfl⟩:a=some ⟨b,off,none⟩∧c=c':=by injection hva with h1 h2 h3;exact⟨h1,h3⟩
   have hat:Hid (∀w',Below w.heap.size w w'→CellsAt w' b (off+h*34) (chc cs[h])):=fun w' hb=>Hat.out w' hb h hhn
   have HFh:=Lib.hid (HF.out cs[h] (HK.out _ (List.getElem_mem _)));have HL:=Lib.hid (zFK cs[h] (HK.out _ (List.getElem_mem _)).len);have hup:zDV cs[h].k k<0→∀z (hz:z<cs.length),z<h+1→zDV cs[z].k k<0:=fun hc z hz hzl=>HM.out z h hz hhn (by omega) hc
   have hdn:¬zDV cs[h].k k<0→∀z (hz:z<cs.length),h≤z→0≤zDV cs[z].k k:=fun hc z hz hzl=>Int.not_lt.1 fun hc2=>hc (HM.out h z hhn hz hzl hc2)
   have HUp:=Lib.hid hup;have HDn:=Lib.hid hdn;clear hup hdn hva Hat;generalize cs[h]=xx at *;generalize hcm:zDV xx.k k=cm at *;clear hcm;go_wp2;refine Inv.wp_region_inv 8 (St w.heap.size w [(b4,kv k,37)]) zBL (by kernel_rfl) st3.drew ?_;simp only[List.take_succ_cons,List.take_zero,List.drop_succ_cons,List.drop_zero]
   iterate 4
    (refine Inv.wpInv_step (fun K hK=>?_);go_simp;apply zAL;· (intro wx hw;go_simp;(try go_ints);(try go_simp);(try (rw[if_pos (by omega)]));(try go_simp);(first | done | rfl))
     refine hK _ ?_;clear hK K)
   (refine Inv.wpInv_step (fun K hK=>?_);go_simp;refine zHD 276 _ rfl b (off+h*34) rfl aggCh (chc xx) (by rw[HL.out];exact zCD) (fun wx hw=>hat.out wx (St.below hw)) ?_
    refine hK _ ?_;clear hK K)
   (refine Inv.wpInv_step (fun K hK=>?_);go_simp;refine zDP 37 _ rfl b4 rfl _ zBF rfl _ _ (fun wx hw=>hw.at (i:=0) rfl) (zAX Hkk.out) ?_
    refine hK _ ?_;clear hK K)
   (refine Inv.wpInv_step (fun K hK=>?_);go_simp;refine⟨.int .i64 cm,zDM 206 #[.agg (chc xx).toArray,.agg (kv k)] (fun wx _=>by go_simp) (fun wx hw=>(HFh.out wx).mono (fun e w' h=>⟨h.1,St.call hw h.2⟩)),?_⟩
    refine hK _ ?_;clear hK K)
   by_cases hc:cm<0
   ·iterate 1
     (refine Inv.wpInv_step (fun K hK=>?_);go_simp;apply zAL;· (intro wx hw;go_simp;(try go_ints);(try go_simp);(try (rw[if_pos (by omega)]));(try go_simp);(first | done | rfl))
      refine hK _ ?_;clear hK K)
    refine Inv.wpInv_nil ?_;intro w4 st4;clear st3;go_wp2;go_roundw
    case rel=>exact⟨h+1,y,rfl,rfl,by omega,hyn,HUp.out hc,H1,st4⟩
    case measure=>simp[intOf];omega
   ·iterate 1
     (refine Inv.wpInv_step (fun K hK=>?_);go_simp;apply zAL;· (intro wx hw;go_simp;(try go_ints);(try go_simp);(try (rw[if_pos (by omega)]));(try go_simp);(first | done | rfl))
      refine hK _ ?_;clear hK K)
    refine Inv.wpInv_nil ?_;intro w4 st4;clear st3;go_wp2;go_roundw
    case rel=>exact⟨x,h,rfl,rfl,by omega,by omega,H0,HDn.out (by omega),st4⟩
    case measure=>simp[intOf];omega
  ·obtain rfl:x=y:=by omega
   by_cases hxn:x<cs.length
   ·have hxi:((x:Nat):Int)<(cs.length:Nat):=by omega
    obtain⟨b,off,c',hva,_,Hat⟩:=HV.out.at (by intro h';rw[h'] at hxn;exact absurd hxn (Nat.not_lt_zero _));obtain⟨rfl,rfl⟩:a=some ⟨b,off,none⟩∧c=c':=by injection hva with h1 h2 h3;exact⟨h1,h3⟩
    have hat:Hid (∀w',Below w.heap.size w w'→CellsAt w' b (off+x*34) (chc cs[x])):=fun w' hb=>Hat.out w' hb x hxn
    have HFh:=Lib.hid (HF.out cs[x] (HK.out _ (List.getElem_mem _)));have HL:=Lib.hid (zFK cs[x] (HK.out _ (List.getElem_mem _)).len);obtain⟨cm,hcm⟩:∃cm,zDV cs[x].k k=cm:=⟨_,rfl⟩
    have HEq2:Hid (∀bb:Bool,(cm==0)=bb→(bb=true→∃h:x<cs.length,zDV cs[x].k k=0)∧(bb=false→∀h:x<cs.length,zDV cs[x].k k≠0)):=fun bb hb=>by
     subst hcm;exact⟨fun h=>⟨hxn,by rw[h] at hb;simpa using hb⟩,fun h _=>by rw[h] at hb;simpa using hb⟩
    rw[hcm] at HFh;clear hva Hat hcm;generalize hxx:cs[x]=xx at HFh HL hat;clear hxx;go_wp2;refine Inv.wp_region_inv 16 (St w.heap.size w [(b4,kv k,37)]) zBL (by kernel_rfl) st3.drew ?_;simp only[List.take_succ_cons,List.take_zero,List.drop_succ_cons,List.drop_zero]
    iterate 9
     (refine Inv.wpInv_step (fun K hK=>?_);go_simp;apply zAL;· (intro wx hw;go_simp;(try go_ints);(try go_simp);(try (rw[if_pos (by omega)]));(try go_simp);(first | done | rfl))
      refine hK _ ?_;clear hK K)
    (refine Inv.wpInv_step (fun K hK=>?_);go_simp;refine zHD 276 _ rfl b (off+x*34) rfl aggCh (chc xx) (by rw[HL.out];exact zCD) (fun wx hw=>hat.out wx (St.below hw)) ?_
     refine hK _ ?_;clear hK K)
    (refine Inv.wpInv_step (fun K hK=>?_);go_simp;refine zDP 37 _ rfl b4 rfl _ zBF rfl _ _ (fun wx hw=>hw.at (i:=0) rfl) (zAX Hkk.out) ?_
     refine hK _ ?_;clear hK K)
    (refine Inv.wpInv_step (fun K hK=>?_);go_simp;refine⟨.int .i64 cm,zDM 206 #[.agg (chc xx).toArray,.agg (kv k)] (fun wx _=>by go_simp) (fun wx hw=>(HFh.out wx).mono (fun e w' h=>⟨h.1,St.call hw h.2⟩)),?_⟩
     refine hK _ ?_;clear hK K)
    cases hcb:(cm==0) with
    |true =>
     iterate 4
      (refine Inv.wpInv_step (fun K hK=>?_);go_simp;apply zAL;· (intro wx hw;go_simp;(try go_ints);(try go_simp);(try (rw[if_pos (by omega)]));(try go_simp);(first | done | rfl))
       refine hK _ ?_;clear hK K)
     refine Inv.wpInv_nil ?_;intro w4 st4;clear st3;have h6:=Lib.hid (HEq2.out true hcb);go_wp2;exact HP.out x true _ hyn H0.out H1.out (fun _=>h6.out.1 (by trivial)) (fun h=>by cases h) st4.below
    |false =>
     iterate 4
      (refine Inv.wpInv_step (fun K hK=>?_);go_simp;apply zAL;· (intro wx hw;go_simp;(try go_ints);(try go_simp);(try (rw[if_pos (by omega)]));(try go_simp);(first | done | rfl))
       refine hK _ ?_;clear hK K)
     refine Inv.wpInv_nil ?_;intro w4 st4;clear st3;have h6:=Lib.hid (HEq2.out false hcb);go_wp2;exact HP.out x false _ hyn H0.out H1.out (fun h=>by cases h) (fun _=>h6.out.2 (by trivial)) st4.below
   ·have hxi:¬((x:Nat):Int)<(cs.length:Nat):=by omega
    go_wp2;refine Inv.wp_region_inv 16 (St w.heap.size w [(b4,kv k,37)]) zBL (by kernel_rfl) st3.drew ?_;simp only[List.take_succ_cons,List.take_zero,List.drop_succ_cons,List.drop_zero]
    iterate 5
     (refine Inv.wpInv_step (fun K hK=>?_);go_simp;apply zAL;· (intro wx hw;go_simp;(try go_ints);(try go_simp);(try (rw[if_pos (by omega)]));(try go_simp);(first | done | rfl))
      refine hK _ ?_;clear hK K)
    iterate 8 (refine Inv.wpInv_step (fun K hK=>?_);go_simp;refine hK _ ?_;clear hK K)
    iterate 3
     (refine Inv.wpInv_step (fun K hK=>?_);go_simp;apply zAL;· (intro wx hw;go_simp;(try go_ints);(try go_simp);(try (rw[if_pos (by omega)]));(try go_simp);(first | done | rfl))
      refine hK _ ?_;clear hK K)
    refine Inv.wpInv_nil ?_;intro w4 st4;clear st3;go_wp2;exact HP.out x false _ hyn H0.out H1.out (fun h=>by cases h) (fun _ h=>absurd h hxn) st4.below
end
section
open Go Go.RowKit
theorem bmS_bit(ts:Nat→Tr):∀(m j:Nat),m≤256→j<256→zBO (bmS ts m) j=if j<m∧zBZ (ts j)≠0 then 1 else 0
 |0,j,_,_=>by rw[if_neg (by omega)];exact zero_bit j
 |m+1,j,hm,hj=>by
  have ih:=bmS_bit ts m j (by omega) hj;unfold bmS
  by_cases hk:zBZ (ts m)=0
  ·rw[if_pos hk,ih]
   by_cases hjm:j=m
   ·subst hjm
    rw[if_neg (by omega),if_neg (by simp[hk])]
   ·by_cases h:j<m∧zBZ (ts j)≠0
    ·rw[if_pos h,if_pos ⟨by omega,h.2⟩]
    ·rw[if_neg h,if_neg (fun h'=>h ⟨by omega,h'.2⟩)]
  ·rw[if_neg hk,orI_bit (bmS_key ts m) _ j hj]
   by_cases hjm:j=m
   ·subst hjm
    rw[if_pos rfl,if_pos ⟨by omega,hk⟩]
   ·rw[if_neg (by omega),ih]
    by_cases h:j<m∧zBZ (ts j)≠0
    ·rw[if_pos h,if_pos ⟨by omega,h.2⟩]
    ·rw[if_neg h,if_neg (fun h'=>h ⟨by omega,h'.2⟩)]
def nnS(ts:Nat→Tr)(m:Nat):List Nat:=(List.range m).filter fun i=>decide (zBZ (ts i)≠0)
theorem range_lt(m:Nat)(p:Nat→Bool):∀n,m≤n→(List.range n).filter (fun i=>decide (i<m)&&p i)=(List.range m).filter p
 |0,h=>by
  obtain rfl:m=0:=by omega
  rfl
 |n+1,h=>by
  rcases Nat.lt_or_ge n m with h' | h'
  ·obtain rfl:m=n+1:=by omega
   refine List.filter_congr fun i hi=>?_
   have:i<n+1:=List.mem_range.1 hi;simp[this]
  ·rw[List.range_succ,List.filter_append,range_lt m p n h']
   have:¬n<m:=by omega
   simp[this]
theorem setB_bmS(ts:Nat→Tr)(m:Nat)(hm:m≤256):setB (bmS ts m)=nnS ts m:=by
 unfold nnS;rw[←range_lt m _ 256 hm];unfold setB;refine List.filter_congr fun i hi=>?_
 rw[bmS_bit ts m i hm (List.mem_range.1 hi)]
 by_cases h1:i<m
 ·by_cases h2:zBZ (ts i)=0
  ·simp[h1,h2]
  ·simp[h1,h2]
 ·simp[h1]
theorem nnS_succ(ts:Nat→Tr)(j:Nat):nnS ts (j+1)=if zBZ (ts j)=0 then nnS ts j else nnS ts j++[j]:=by
 unfold nnS;rw[List.range_succ,List.filter_append]
 by_cases h:zBZ (ts j)=0
 ·simp[h]
 ·simp[h]
theorem nnS_len(KK:List Int)(bits:Int)(ts:Nat→Tr):∀j,(nnS ts j).length=(sbS KK bits ts j).length
 |0=>rfl
 |j+1=>by
  rw[nnS_succ];unfold sbS
  split
  ·exact nnS_len KK bits ts j
  ·rw[List.length_append,List.length_append,nnS_len KK bits ts j];rfl
theorem sbS_prefix(KK:List Int)(bits:Int)(ts:Nat→Tr)(j:Nat):∀m,j≤m→∃r,sbS KK bits ts m=sbS KK bits ts j++r
 |0,h=>by
  obtain rfl:j=0:=by omega
  exact⟨[],rfl⟩
 |m+1,h=>by
  rcases Nat.lt_or_ge m j with h' | h'
  ·obtain rfl:j=m+1:=by omega
   exact⟨[],(List.append_nil _).symm⟩
  ·obtain⟨r,hr⟩:=sbS_prefix KK bits ts j m h'
   show ∃r,(if zBZ (ts m)=0 then sbS KK bits ts m else sbS KK bits ts m++[zJL KK bits (ts m)])=_
   split
   ·exact⟨r,hr⟩
   ·exact⟨r++[zJL KK bits (ts m)],by rw[hr,List.append_assoc]⟩
theorem sbS_at(KK:List Int)(bits:Int)(ts:Nat→Tr)(j m:Nat)(h:j<m)(hk:zBZ (ts j)≠0):((sbS KK bits ts m).flatten.drop (32*(nnS ts j).length)).take 32=zJL KK bits (ts j):=by
 obtain⟨r,hr⟩:=sbS_prefix KK bits ts (j+1) m h;have e:sbS KK bits ts (j+1)=sbS KK bits ts j++[zJL KK bits (ts j)]:=by
  show (if zBZ (ts j)=0 then _ else _)=_
  rw[if_neg hk]
 rw[hr,e,List.flatten_append,List.flatten_append,List.append_assoc,nnS_len KK bits,←(sbS_len KK bits ts j).2,List.drop_left];simp only[List.flatten_cons,List.flatten_nil,List.append_nil];exact List.take_left' (zDL KK bits (ts j)).len
theorem digAt_rep(E:List Nat)(hE:E.length=32):∀(m i:Nat),i<m→digAt (repL E m) i=E
 |0,i,h=>absurd h (Nat.not_lt_zero _)
 |m+1,i,h=>by
  have hl:=zIM E hE;unfold digAt;rcases Nat.eq_zero_or_pos i with rfl | hp
  ·have:repL E (m+1)=E++repL E m:=by simp[repL,List.replicate_succ]
   rw[this,Nat.mul_zero,List.drop_zero];exact List.take_left' hE
  ·obtain⟨q,rfl⟩:∃q,i=q+1:=⟨i - 1,by omega⟩
   have:repL E (m+1)=E++repL E m:=by simp[repL,List.replicate_succ]
   rw[this,show 32*(q+1)=E.length+32*q by omega,←List.drop_drop,List.drop_left];exact digAt_rep E hE m q (by omega)
theorem digAt_set{X k:List Nat}{d i m:Nat}(hX:X.length=32*m)(hk:k.length=32)(hd:d<m):digAt (setD X d k) i=if i=d then k else digAt X i:=by
 unfold digAt setD;have ht:(X.take (32*d)).length=32*d:=by rw[List.length_take];omega
 by_cases h:i=d
 ·subst h
  rw[if_pos rfl,List.drop_left' ht];exact List.take_left' hk
 ·rw[if_neg h]
  rcases Nat.lt_or_ge i d with hlt | hge
  ·rw[List.drop_append_of_le_length (by omega),List.take_append_of_le_length (by rw[List.length_drop];omega),List.drop_take,List.take_take,Nat.min_eq_left (by omega)]
  ·rw[show 32*i=32*d+(32+(32*i - 32*d - 32)) by omega,←List.drop_drop,List.drop_left' ht,←List.drop_drop,List.drop_left' hk,List.drop_drop]
   congr 2
   omega
theorem expF_at(KK:List Int)(bits:Int)(ts:Nat→Tr)(m:Nat):∀j,j≤m→(expF (zBE KK bits [3]) m (nnS ts j) (sbS KK bits ts m).flatten).length=32*m ∧
  ∀i<m,digAt (expF (zBE KK bits [3]) m (nnS ts j) (sbS KK bits ts m).flatten) i=if i<j then zJL KK bits (ts i) else zBE KK bits [3]
 |0,_=>by
  have hE:(zBE KK bits [3]).length=32:=(zBG _ _ _).len;refine⟨zIM _ hE m,fun i hi=>?_⟩;rw[if_neg (by omega)];exact digAt_rep _ hE m i hi
 |j+1,hj=>by
  obtain⟨i1,i2⟩:=expF_at KK bits ts m j (by omega);rw[nnS_succ]
  by_cases hk:zBZ (ts j)=0
  ·rw[if_pos hk]
   refine⟨i1,fun i hi=>?_⟩;rw[i2 i hi]
   by_cases hij:i=j
   ·subst hij
    rw[if_neg (by omega),if_pos (by omega)]
    cases ht:ts i with
    |nil=>rfl
    |leaf _ _=>rw[ht] at hk;exact absurd hk (by simp[zBZ])
    |inner _ _=>rw[ht] at hk;exact absurd hk (by simp[zBZ])
   ·by_cases h:i<j
    ·rw[if_pos h,if_pos (by omega)]
    ·rw[if_neg h,if_neg (by omega)]
  ·rw[if_neg hk,expF_snoc,sbS_at KK bits ts j m (by omega) hk]
   have hl:=(zDL KK bits (ts j)).len;refine⟨by rw[setD_len hl (by omega),i1],fun i hi=>?_⟩;rw[digAt_set i1 hl (by omega),i2 i hi]
   by_cases hij:i=j
   ·subst hij
    rw[if_pos rfl,if_pos (by omega)]
   ·rw[if_neg hij]
    by_cases h:i<j
    ·rw[if_pos h,if_pos (by omega)]
    ·rw[if_neg h,if_neg (by omega)]
theorem bel_ins(KK:List Int)(bits:Int){k:List Nat}(hk:Key k)(v:List Nat):∀(n d:Nat)(es:List Ent),d+n=256→DistB es d→(∀e∈es,∀j<d,zBO e.1 j=zBO k j) →
  ∀(m:Nat)(nd:Nat→Tr) (X:List Nat),WayN k (zCI (n+1) es d) d m nd→(zBZ (nd m)=0∨∃v0,nd m=.leaf k v0)→(∀i<m,digAt X (d+i)=zJL KK bits (zCH (nd i) (1 - zDQ k ((d+i:Nat):Int)))) →
  belF KK bits (0::(k++zBE KK bits (2::v))) k X (d+m) m=zJL KK bits (zJK k v d (zCI (n+1) es d))∧(1≤m→zBZ (zCH (nd (m - 1)) (1 - zDQ k ((d+(m - 1):Nat):Int)))≠0)
 |n,d,[],hd,hD,hp,m,nd,X,hW,hend,hX=>by
  have h0:nd 0=.nil:=hW.zero;have hm:m=0:=by
   rcases Nat.eq_zero_or_pos m with h | h
   ·exact h
   ·have:=(hW.step 0 h).1
    rw[h0] at this;exact absurd this (by simp[zBZ])
  subst hm;exact⟨rfl,fun h=>absurd h (by omega)⟩
 |n,d,[e],hd,hD,hp,m,nd,X,hW,hend,hX=>by
  have h0:nd 0=.leaf e.1 e.2:=hW.zero;have hm:m=0:=by
   rcases Nat.eq_zero_or_pos m with h | h
   ·exact h
   ·have:=(hW.step 0 h).1
    rw[h0] at this;exact absurd this (by simp[zBZ])
  subst hm;refine⟨?_,fun h=>absurd h (by omega)⟩;rw[h0] at hend;rcases hend with h | ⟨v0,h⟩
  ·exact absurd h (by simp[zBZ])
  ·injection h with h1 h2
   show zBE KK bits _=zJL KK bits (zJK k v d (.leaf e.1 e.2))
   unfold zJK;rw[if_pos h1];rfl
 |n,d,e::f::l,hd,hD,hp,m,nd,X,hW,hend,hX=>by
  have hn:1≤n:=by
   rcases Nat.lt_or_ge d 256 with h | h
   ·omega
   ·have:=hD.few h
    simp at this
  obtain⟨q,rfl⟩:∃q,n=q+1:=⟨n - 1,by omega⟩
  have hne1:1≤((e::f::l).filter fun x=>decide (x.1≠k)).length:=by
   have hne:e.1≠f.1:=(List.pairwise_cons.1 hD.ne).1 f List.mem_cons_self;rw[Nat.succ_le_iff,List.length_pos_iff_exists_mem]
   by_cases he:e.1=k
   ·exact⟨f,List.mem_filter.2 ⟨by simp,decide_eq_true (fun h=>hne (he.trans h.symm))⟩⟩
   ·exact⟨e,List.mem_filter.2 ⟨by simp,decide_eq_true he⟩⟩
  have h2:2≤(e::f::l).length:=by simp
  generalize e::f::l=es at *;have hd':d<256:=by omega
  have hpp:∀e∈zBY es d (zBO k d),∀j<d+1,zBO e.1 j=zBO k j:=fun e he j hj=>by
   obtain⟨he1,he2⟩:=List.mem_filter.1 he
   by_cases hjd:j<d
   ·exact hp e he1 j hjd
   ·obtain rfl:j=d:=by omega
    exact of_decide_eq_true he2
  have h0:nd 0=.inner (zCI (q+1) (zBY es d 0) (d+1)) (zCI (q+1) (zBY es d 1) (d+1)):=by rw[hW.zero,zGP h2]
  have hm:1≤m:=by
   rcases Nat.eq_zero_or_pos m with h | h
   ·subst h
    have:=hW.last;rw[h0] at this;exact absurd rfl this
   ·exact h
  obtain⟨m',rfl⟩:∃m',m=m'+1:=⟨m - 1,by omega⟩
  have hb:=zCQ k d;have hbi:=zJH (k:=k) hd';have hc0:zCH (nd 0) (zDQ k (d:Nat))=zCI (q+1) (zBY es d (zBO k d)) (d+1):=by
   rw[h0,hbi];rcases Nat.lt_or_ge (zBO k d) 1 with h | h
   ·obtain h:zBO k d=0:=by omega
    rw[h];rfl
   ·obtain h:zBO k d=1:=by omega
    rw[h];rfl
  have hs0:zCH (nd 0) (1 - zDQ k (d:Nat))=zCI (q+1) (zBY es d (1 - zBO k d)) (d+1):=by
   rw[h0,hbi];rcases Nat.lt_or_ge (zBO k d) 1 with h | h
   ·obtain h:zBO k d=0:=by omega
    rw[h];rfl
   ·obtain h:zBO k d=1:=by omega
    rw[h];rfl
  have h1:nd 1=zCI (q+1) (zBY es d (zBO k d)) (d+1):=by
   have:=(hW.step 0 (by omega)).2;rw[this];exact hc0
  have hW':WayN k (zCI (q+1) (zBY es d (zBO k d)) (d+1)) (d+1) m' (fun i=>nd (i+1)):=by
   have hW2:=hW;rw[zGP h2] at hW2;have hes:endT k d (.inner (zCI (q+1) (zBY es d 0) (d+1)) (zCI (q+1) (zBY es d 1) (d+1)))=endT k (d+1) (zCI (q+1) (zBY es d (zBO k d)) (d+1))∧∃s,sibT k d (.inner (zCI (q+1) (zBY es d 0) (d+1)) (zCI (q+1) (zBY es d 1) (d+1)))=s::sibT k (d+1) (zCI (q+1) (zBY es d (zBO k d)) (d+1)):=by
    show (if zDQ k (d:Nat)=0 then _ else _)=_∧∃s,(if zDQ k (d:Nat)=0 then _ else _)=_
    rw[hbi];rcases Nat.lt_or_ge (zBO k d) 1 with h | h
    ·obtain h:zBO k d=0:=by omega
     rw[h,if_pos (show ((0:Nat):Int)=0 from rfl),if_pos (show ((0:Nat):Int)=0 from rfl)];exact⟨rfl,_,rfl⟩
    ·obtain h:zBO k d=1:=by omega
     rw[h,if_neg (show ¬((1:Nat):Int)=0 by decide),if_neg (show ¬((1:Nat):Int)=0 by decide)];exact⟨rfl,_,rfl⟩
   obtain⟨he,s,hs⟩:=hes;refine⟨h1,by have:=hW.le;omega,fun j hj=>?_,hW.last,hW2.endd.trans he,?_,fun j hj=>?_⟩
   ·have:=hW.step (j+1) (by omega)
    rw[show d+(j+1)=d+1+j by omega] at this;exact this
   ·have:=hW2.len
    rw[hs,List.length_cons] at this;omega
   ·have:=hW2.sib (j+1) (by omega)
    rw[hs,show d+(j+1)=d+1+j by omega] at this
    simpa using this
  obtain⟨ih1,ih2⟩:=bel_ins KK bits hk v q (d+1) (zBY es d (zBO k d)) (by omega) (hD.part _) hpp m' (fun i=>nd (i+1)) X hW' hend (fun i hi=>by
   have:=hX (i+1) (by omega);rw[show d+(i+1)=d+1+i by omega] at this;exact this)
  refine⟨?_,fun _=>?_⟩
  ·rw[insT_bld hk _ _ _ hd hD hp,zGP (by rw[List.length_cons];omega),part_put,part_put]
   have hX0:=hX 0 (by omega);rw[Nat.add_zero,hs0] at hX0;rw[insT_bld hk _ _ _ (by omega) (hD.part _) hpp] at ih1
   show zBE KK bits (1::(if zBO k (d+(m'+1) - 1 - m')=0 then _ else _))=_
   rw[show d+(m'+1) - 1 - m'=d by omega,show d+(m'+1)=d+1+m' by omega,ih1,hX0]
   show _=zBE KK bits _
   rcases Nat.lt_or_ge (zBO k d) 1 with h | h
   ·obtain h:zBO k d=0:=by omega
    rw[h,if_pos rfl,if_pos rfl,if_neg (by decide)]
   ·obtain h:zBO k d=1:=by omega
    rw[h,if_neg (by decide),if_neg (by decide),if_pos rfl]
  ·rcases Nat.eq_zero_or_pos m' with h | h
   ·subst h
    show zBZ (zCH (nd 0) _)≠0
    rw[show d+(0+1 - 1)=d by omega,hs0];have hpl:=part_len d es;have hk1:zBZ (nd 1)≠2:=hW.last
    have:(zBY es d (zBO k d)).length≤1:=by
     rcases Nat.lt_or_ge (zBY es d (zBO k d)).length 2 with h | h
     ·omega
     ·exact absurd (by rw[h1];exact kind_two (by omega) h _) hk1
    have:1≤(zBY es d (1 - zBO k d)).length:=by
     rcases Nat.lt_or_ge (zBO k d) 1 with h | h
     ·obtain h:zBO k d=0:=by omega
      rw[h] at this ⊢
      show 1≤(zBY es d 1).length
      omega
     ·obtain h:zBO k d=1:=by omega
      rw[h] at this ⊢
      show 1≤(zBY es d 0).length
      omega
    have hne:=bldT_ne (n:=q+1) (by omega) this (d+1);intro hk0
    cases hT:zCI (q+1) (zBY es d (1 - zBO k d)) (d+1) with
    |nil=>exact hne hT
    |leaf _ _=>rw[hT] at hk0;exact absurd hk0 (by simp[zBZ])
    |inner _ _=>rw[hT] at hk0;exact absurd hk0 (by simp[zBZ])
   ·have:=ih2 h
    rw[show m' - 1+1=m' by omega,show d+1+(m' - 1)=d+m' by omega] at this;exact this
theorem proof_ins(KK:List Int)(bits:Int){k:List Nat}(hk:Key k)(v:List Nat)(es:List Ent)(hD:DistB es 0)(m:Nat)(nd:Nat→Tr)(hW:WayN k (zCI 257 es 0) 0 m nd)(hend:zBZ (nd m)=0∨∃v0,nd m=.leaf k v0)
  (ts:Nat→Tr) (hts:ts=fun i=>zCH (nd i) (1 - zDQ k (i:Nat))) :
  zGV 1 (m:Nat) (k++zBE KK bits (2::v)) (bmS ts m) (sbS KK bits ts m).length=0 ∧
  belF KK bits (endF 1 (k++zBE KK bits (2::v))) k (expF (zBE KK bits [3]) m (setB (bmS ts m)) (sbS KK bits ts m).flatten) m m=zJL KK bits (zJK k v 0 (zCI 257 es 0)):=by
 have hm:m≤256:=by have:=hW.le;omega
 have hX:=(expF_at KK bits ts m m (Nat.le_refl _)).2;rw[←setB_bmS ts m hm] at hX;obtain⟨h1,h2⟩:=bel_ins KK bits hk v 256 0 es rfl hD (fun _ _ j hj=>absurd hj (Nat.not_lt_zero _)) m nd _ hW hend (fun i hi=>by
  rw[Nat.zero_add,hX i hi,if_pos hi,hts])
 rw[Nat.zero_add] at h1;refine⟨?_,h1⟩;have hb:Key (bmS ts m):=bmS_key ts m;have hlen:lenN (bmS ts m)=(sbS KK bits ts m).length:=by rw[lenN_eq hb,setB_bmS ts m hm,nnS_len KK bits]
 have hlast:lastI (bmS ts m)=(m:Nat) - 1:=by
  refine lastI_unique ⟨by omega,by omega,fun h=>?_,fun j hj1 hj2=>?_⟩
  ·have e:(((m:Nat):Int) - 1).toNat=m - 1:=by omega
   have h3:=h2 (by omega);rw[Nat.zero_add] at h3;rw[e,bmS_bit ts m (m - 1) hm (by omega),if_pos ⟨by omega,by rw[hts];exact h3⟩]
  ·rw[bmS_bit ts m j hm hj2,if_neg (by omega)]
 unfold zGV;rw[hlen,hlast];have e1:(decide ((0:Int)≤(m:Nat))&&decide (((m:Nat):Int)≤256))=true:=by
  rw[decide_eq_true (by omega),decide_eq_true (by omega)];rfl
 rw[e1];simp
end
end Go.Proofs.YtlcngapphloafaaGreatDoor
