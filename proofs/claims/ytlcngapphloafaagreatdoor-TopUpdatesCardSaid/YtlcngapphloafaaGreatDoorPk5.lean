/- Parts of the proof that are used by the claim: Common, Bitmap. No condition is added here. -/
import Derived.Test.YtlcngapphloafaaGreatDoorPk3
import Derived.Test.YtlcngapphloafaaGreatDoorPk4
namespace Go.Proofs.YtlcngapphloafaaGreatDoor
section
set_option maxHeartbeats 1000000
open Go Go.RowKit
theorem zIP:Tryz.prog.eqGuardType Tryz.prog.depth 37=false:=by kernel_rfl
theorem byteT:Tryz.prog.underlying 5=some (.int .u8):=by kernel_rfl
theorem eqlKey(a b:List Nat)(la:a.length=32)(lb:b.length=32)(w:World) :
  (Op.equalIn 10000 37 (.agg (kv a)) (.agg (kv b))).run Tryz.prog w=.ok (decide (a=b)) w :=
 zET w 9998 37 5 32 zBF byteT zGN a b la lb
theorem Common_same(a:List Nat)(ha:Key a)(w:World) :
  Calls Tryz.prog 148 #[.agg (kv a),.agg (kv a)] w fun e w'=>e=.returned (.int .i64 256)∧Below w.heap.size w w':=by
 have hq:∀w,(Op.equalIn 10000 37 (.agg (kv a)) (.agg (kv a))).run Tryz.prog w=.ok true w:=fun w=>by rw[eqlKey a a ha.len ha.len w];simp
 have hg:=zIP;have hlen:=Lib.hid ha.len;clear ha;have st:=St.init w;go_enter Tryz.func148,Tryz.ntmps148
 go_wp2_with (first | (refine zAD (by assumption) rfl 37 _ rfl _ rfl ?_;intro b1 w1 st1;clear st) | (refine zAD (by assumption) rfl 37 _ rfl _ rfl ?_;intro b2 w2 st2;clear st1) | (refine zAC rfl 37 _ rfl b1 rfl _ zBF rfl _ _ (st2.at (i:=1) rfl) (zAX hlen.out) ?_) | (refine zAC rfl 37 _ rfl b2 rfl _ zBF rfl _ _ (st2.at (i:=0) rfl) (zAX hlen.out) ?_))
 go_ret;exact⟨rfl,st2.below⟩
theorem Common_diff(a b:List Nat)(ha:Key a)(hb:Key b)(hab:a≠b)(w:World) :
  Calls Tryz.prog 148 #[.agg (kv a),.agg (kv b)] w fun e w'=>e=.returned (.int .i64 (zEX a b:Nat))∧Below w.heap.size w w':=by
 have hq:∀w,(Op.equalIn 10000 37 (.agg (kv a)) (.agg (kv b))).run Tryz.prog w=.ok false w:=fun w=>by rw[eqlKey a b ha.len hb.len w];simp[hab]
 have hg:=zIP;have hlen:=Lib.hid ha.len;have hlenb:=Lib.hid hb.len;have HA:=Lib.hid ha;have HB:=Lib.hid hb;have HAB:=Lib.hid hab;clear ha hb hab;have st:=St.init w;go_enter Tryz.func148,Tryz.ntmps148
 go_wp2_with (first | (refine zAD (by assumption) rfl 37 _ rfl _ rfl ?_;intro b1 w1 st1;clear st) | (refine zAD (by assumption) rfl 37 _ rfl _ rfl ?_;intro b2 w2 st2;clear st1) | (refine zAC rfl 37 _ rfl b1 rfl _ zBF rfl _ _ (st2.at (i:=1) rfl) (zAX hlen.out) ?_) | (refine zAC rfl 37 _ rfl b2 rfl _ zBF rfl _ _ (st2.at (i:=0) rfl) (zAX hlenb.out) ?_))
 clear hq hg
 go_loopw [10] (fun i wr=>∃k:Int,0≤k∧k≤32∧i=.int .i64 k∧Hid (∀j<k.toNat,a.getD j 0=b.getD j 0)∧St w.heap.size w [(b2,kv b,37),(b1,kv a,37)] wr) (fun i _=>(32 - intOf i).toNat)
 case atStart=>exact⟨0,by omega,by omega,rfl,by intro j hj;simp at hj,st2⟩
 case round =>
  obtain⟨k,k0,k1,rfl,hp,st3⟩:=hrel;clear st2;have hk32:k<32:=by
   by_cases h:k<32
   ·exact h
   ·exact absurd (getD_ext (by rw[hlen.out,hlenb.out]) fun j hj=>hp.out j (by rw[hlen.out] at hj;omega)) HAB.out
  have hx:(kv a)[k.toNat]?=some (.int .u8 (a.getD k.toNat 0:Nat)):=zFX a _ (by rw[hlen.out];omega);have hy:(kv b)[k.toNat]?=some (.int .u8 (b.getD k.toNat 0:Nat)):=zFX b _ (by rw[hlenb.out];omega);have hca:=HA.out.get k.toNat;have hcb:=HB.out.get k.toNat;have hxor:=xor_u8 _ _ hca hcb;have hdlt:a.getD k.toNat 0 ^^^ b.getD k.toNat 0<256:=Nat.xor_lt_two_pow (n:=8) hca hcb;have Hcom:Hid (a.getD k.toNat 0 ^^^ b.getD k.toNat 0≠0→zEX a b=8*k.toNat+(8 - Lib.bitLen (a.getD k.toNat 0 ^^^ b.getD k.toNat 0))) :=
   fun h=>com_at HA.out HB.out k.toNat (by omega) (fun j hj=>hp.out j hj) h
  have Hz:Hid (a.getD k.toNat 0 ^^^ b.getD k.toNat 0=0→∀j<(k+1).toNat,a.getD j 0=b.getD j 0):=fun h j hj=>by
   rcases Nat.lt_or_ge j k.toNat with h1 | h1
   ·exact hp.out j h1
   ·obtain rfl:j=k.toNat:=by omega
    exact xor_zero h
  have hlz:∀wx:World,Calls Tryz.prog 172 #[.int .u8 ((a.getD k.toNat 0 ^^^ b.getD k.toNat 0:Nat):Int)] wx fun e w'=>e=.returned (.int .i64 (8 - (Lib.bitLen (a.getD k.toNat 0 ^^^ b.getD k.toNat 0):Int)))∧w'=wx:=fun wx=>by
   have:=Tryz.bits_LeadingZeros8 ((a.getD k.toNat 0 ^^^ b.getD k.toNat 0:Nat):Int) wx (by omega) (by omega)
   simpa using this
  have hz8:a.getD k.toNat 0 ^^^ b.getD k.toNat 0≠0→Lib.bitLen (a.getD k.toNat 0 ^^^ b.getD k.toNat 0)≤8:=fun h=>(lead_bits _ hdlt h).1
  have Hlz:=Lib.hid hlz;clear hlz hp hca hcb;generalize a.getD k.toNat 0=x at *;generalize b.getD k.toNat 0=y at *;generalize x ^^^ y=d at *
  by_cases hd0:d=0
  ·subst hd0
   have hz:=Hz.out rfl;have HZ:=Lib.hid hz;clear Hz hz Hcom Hlz hz8 hdlt;generalize (x:Int)=X at *;generalize (y:Int)=Y at *;go_wp2;refine zBH 8 st3 zBL (by kernel_rfl) ?_;intro I hI hI';have q:∀wx,I wx→wx.cell? ⟨b1,k.toNat,none⟩=some (.int .u8 X)∧wx.cell? ⟨b2,k.toNat,none⟩=some (.int .u8 Y):=fun wx hw=>⟨((hI wx hw).cell (i:=1) rfl _).trans hx,((hI wx hw).cell (i:=0) rfl _).trans hy⟩
   simp only[List.take_succ_cons,List.take_zero,List.drop_succ_cons,List.drop_zero]
   iterate 8
    (refine Inv.wpInv_step (fun K hK=>?_);go_simp;apply zAL;· (intro wx hw;have q1:=q wx hw;go_simp;(try go_ints);(try go_simp);(try (rw[if_pos (by omega)]));(try go_simp);(first | done | rfl))
     refine hK _ ?_;clear hK K)
   clear q hI hI';refine Inv.wpInv_nil ?_;intro w4 st4;clear st3;go_wp2;go_roundw
   case rel=>exact⟨k+1,by omega,by omega,rfl,HZ.out,st4⟩
   case measure=>simp[intOf];omega
  ·have hc:=Hcom.out hd0
   have HC:=Lib.hid hc;have hz9:=hz8 hd0;have hne:((d:Int) != 0)=true:=by rw[bne_iff_ne];omega
   clear Hz hc Hcom hz8 hdlt hd0;generalize Lib.bitLen d=z at *;have HCi:Hid ((zEX a b:Int)=8*k+(8 - (z:Int))):=by unfold Hid;rw[HC.out];omega
   have hZ0:(0:Int)≤(z:Int):=by omega
   have hZ8:(z:Int)≤8:=by omega
   clear HC hz9;generalize (x:Int)=X at *;generalize (y:Int)=Y at *;generalize (z:Int)=Z at *;generalize (d:Int)=D at *;go_wp2;refine zBH 8 st3 zBL (by kernel_rfl) ?_;intro I hI hI';have q:∀wx,I wx→wx.cell? ⟨b1,k.toNat,none⟩=some (.int .u8 X)∧wx.cell? ⟨b2,k.toNat,none⟩=some (.int .u8 Y):=fun wx hw=>⟨((hI wx hw).cell (i:=1) rfl _).trans hx,((hI wx hw).cell (i:=0) rfl _).trans hy⟩
   simp only[List.take_succ_cons,List.take_zero,List.drop_succ_cons,List.drop_zero]
   iterate 8
    (refine Inv.wpInv_step (fun K hK=>?_);go_simp;apply zAL;· (intro wx hw;have q1:=q wx hw;go_simp;(try go_ints);(try go_simp);(try (rw[if_pos (by omega)]));(try go_simp);(first | done | rfl))
     refine hK _ ?_;clear hK K)
   clear q hI hI' hx hy;refine Inv.wpInv_nil ?_;intro w4 st4;clear st3
   go_wp2_with (go_at_call 172;refine(Hlz.out _).mono ?_;rintro e w5 ⟨rfl,rfl⟩)
   go_ret;exact⟨ret_int HCi.out.symm,st4.below⟩
theorem Common_calls(a b:List Nat)(ha:Key a)(hb:Key b)(w:World) :
  Calls Tryz.prog 148 #[.agg (kv a),.agg (kv b)] w fun e w'=>e=.returned (.int .i64 (zEX a b:Nat))∧Below w.heap.size w w':=by
 by_cases h:a=b
 ·subst h
  rw[(comN_256 ha hb).2 rfl];exact Common_same a ha w
 ·exact Common_diff a b ha hb h w
end
section
set_option maxHeartbeats 1000000
open Go Go.RowKit
theorem zeroBm:(Tryz.prog.info? 105).bind (·.zero)=some (.agg (kv zAH)):=by kernel_rfl
theorem sizeBm0:(Tryz.prog.info? 105).map (·.size)=some 32:=by kernel_rfl
theorem aggBm:Tryz.prog.underlying 105=some (.array 32 5):=by kernel_rfl
theorem zEO{l:List Nat}(h:l.length=32):(Tryz.prog.info? 105).map (·.size)=some (kv l).size:=by rw[zAF,h];exact sizeBm0
theorem guardBm:Tryz.prog.eqGuardType Tryz.prog.depth 105=false:=by kernel_rfl
theorem eqlBm(a b:List Nat)(la:a.length=32)(lb:b.length=32)(w:World) :
  (Op.equalIn 10000 105 (.agg (kv a)) (.agg (kv b))).run Tryz.prog w=.ok (decide (a=b)) w :=
 zET w 9998 105 5 32 aggBm byteT zGN a b la lb
theorem Has_calls(b:List Nat)(hk:Key b)(i:Int)(w:World) :
  Calls Tryz.prog 80 #[.agg (kv b),.int .i64 i] w fun e w'=>e=.returned (.bool (zDQ b i==1))∧Below w.heap.size w w':=by
 have hlen:Hid (b.length=32):=hk.len;have H1:=Lib.hid (zIC b hk i);clear hk;generalize zDQ b i=X at *;have st:=St.init w;go_enter Tryz.func80,Tryz.ntmps80
 go_wp2_with (first | (refine zAD (by assumption) rfl 105 _ rfl _ rfl ?_;intro b1 w1 st1;clear st) | (refine zAC rfl 105 _ rfl b1 rfl _ aggBm rfl _ _ (St.at (by assumption) (i:=0) rfl) (zEO hlen.out) ?_) | (go_at_call 79;refine(H1.out _).mono ?_;rintro e wn ⟨rfl,hbel⟩;have stn:=St.call (by assumption) hbel;clear hbel))
 go_ret;exact⟨rfl,stn.below⟩
theorem HasT(b:List Nat)(hk:Key b)(i:Int)(v:Bool)(hv:(zDQ b i==1)=v)(w:World) :
  Calls Tryz.prog 80 #[.agg (kv b),.int .i64 i] w fun e w'=>e=.returned (.bool v)∧Below w.heap.size w w':=by
 have h:=Has_calls b hk i w;rw[hv] at h;exact h
theorem With_calls(b:List Nat)(hk:Key b)(i:Int)(w:World) :
  Calls Tryz.prog 42 #[.agg (kv b),.int .i64 i] w fun e w'=>e=.returned (.agg (kv (orI b i)))∧Below w.heap.size w w':=by
 have hlen:Hid (b.length=32):=hk.len;have hlen2:Hid ((flipI b i).length=32):=by unfold Hid flipI;split;rw[flipN_len];exact hk.len;exact hk.len
 have hlen3:Hid (zAH.length=32):=zIO.len;have H2:=Lib.hid (Flip_calls b hk i);have st:=St.init w;unfold orI
 by_cases h:zDQ b i=1
 ·rw[if_pos h]
  have H1:=Lib.hid (HasT b hk i true (by rw[h];rfl));clear hk h;go_enter Tryz.func42,Tryz.ntmps42
  go_wp2_with (first | (refine zAD (by assumption) rfl 105 _ rfl _ rfl ?_;intro b1 w1 st1;clear st) | (refine zAE (by assumption) rfl 105 rfl _ zeroBm ?_;intro b2 w2 st2;clear st1) | (refine zAC rfl 105 _ rfl b1 rfl _ aggBm rfl _ _ (St.at (by assumption) (i:=1) rfl) (zEO hlen.out) ?_) | (go_at_call 80;refine(H1.out _).mono ?_;rintro e wn ⟨rfl,hbel⟩;have stn:=St.call (by assumption) hbel;clear hbel) | (refine zAA (by assumption) rfl 105 _ _ rfl 0 b2 rfl _ rfl _ _ rfl (zEO hlen.out) (by show (kv b).size=_;rw[zAF,hlen.out,zAF,hlen3.out]) (zBJ _) _ rfl ?_;intro w6 st6))
  exact zBX rfl b2 _ _ _ rfl (st6.at (i:=0) rfl) aggBm rfl (zEO hlen.out) rfl ⟨rfl,st6.below⟩
 ·rw[if_neg h]
  have H1:=Lib.hid (HasT b hk i false (by simpa using h));clear hk h;generalize hF:flipI b i=F at *;clear hF;go_enter Tryz.func42,Tryz.ntmps42
  go_wp2_with (first | (refine zAD (by assumption) rfl 105 _ rfl _ rfl ?_;intro b1 w1 st1;clear st) | (refine zAE (by assumption) rfl 105 rfl _ zeroBm ?_;intro b2 w2 st2;clear st1) | (refine zAC rfl 105 _ rfl b1 rfl _ aggBm rfl _ _ (St.at (by assumption) (i:=1) rfl) (zEO hlen.out) ?_) | (go_at_call 80;refine(H1.out _).mono ?_;rintro e wn ⟨rfl,hbel⟩;have stn:=St.call (by assumption) hbel;clear hbel) | (go_at_call 81;refine(H2.out _).mono ?_;rintro e wn ⟨rfl,hbel⟩;have stn:=St.call (by assumption) hbel;clear hbel) | (refine zAA (by assumption) rfl 105 _ _ rfl 0 b2 rfl _ rfl _ _ rfl (zEO hlen2.out) (by show (kv F).size=_;rw[zAF,hlen2.out,zAF,hlen3.out]) (zBJ _) _ rfl ?_;intro w6 st6))
  exact zBX rfl b2 _ _ _ rfl (st6.at (i:=0) rfl) aggBm rfl (zEO hlen2.out) rfl ⟨rfl,st6.below⟩
theorem Without_calls(b:List Nat)(hk:Key b)(i:Int)(w:World) :
  Calls Tryz.prog 147 #[.agg (kv b),.int .i64 i] w fun e w'=>e=.returned (.agg (kv (andI b i)))∧Below w.heap.size w w':=by
 have hlen:Hid (b.length=32):=hk.len;have hlen2:Hid ((flipI b i).length=32):=by unfold Hid flipI;split;rw[flipN_len];exact hk.len;exact hk.len
 have hlen3:Hid (zAH.length=32):=zIO.len;have H2:=Lib.hid (Flip_calls b hk i);have st:=St.init w;unfold andI
 by_cases h:zDQ b i=1
 ·rw[if_pos h]
  have H1:=Lib.hid (HasT b hk i true (by rw[h];rfl));clear hk h;generalize hF:flipI b i=F at *;clear hF;go_enter Tryz.func147,Tryz.ntmps147
  go_wp2_with (first | (refine zAD (by assumption) rfl 105 _ rfl _ rfl ?_;intro b1 w1 st1;clear st) | (refine zAE (by assumption) rfl 105 rfl _ zeroBm ?_;intro b2 w2 st2;clear st1) | (refine zAC rfl 105 _ rfl b1 rfl _ aggBm rfl _ _ (St.at (by assumption) (i:=1) rfl) (zEO hlen.out) ?_) | (go_at_call 80;refine(H1.out _).mono ?_;rintro e wn ⟨rfl,hbel⟩;have stn:=St.call (by assumption) hbel;clear hbel) | (go_at_call 81;refine(H2.out _).mono ?_;rintro e wn ⟨rfl,hbel⟩;have stn:=St.call (by assumption) hbel;clear hbel) | (refine zAA (by assumption) rfl 105 _ _ rfl 0 b2 rfl _ rfl _ _ rfl (zEO hlen2.out) (by show (kv F).size=_;rw[zAF,hlen2.out,zAF,hlen3.out]) (zBJ _) _ rfl ?_;intro w6 st6))
  exact zBX rfl b2 _ _ _ rfl (st6.at (i:=0) rfl) aggBm rfl (zEO hlen2.out) rfl ⟨rfl,st6.below⟩
 ·rw[if_neg h]
  have H1:=Lib.hid (HasT b hk i false (by simpa using h));clear hk h;go_enter Tryz.func147,Tryz.ntmps147
  go_wp2_with (first | (refine zAD (by assumption) rfl 105 _ rfl _ rfl ?_;intro b1 w1 st1;clear st) | (refine zAE (by assumption) rfl 105 rfl _ zeroBm ?_;intro b2 w2 st2;clear st1) | (refine zAC rfl 105 _ rfl b1 rfl _ aggBm rfl _ _ (St.at (by assumption) (i:=1) rfl) (zEO hlen.out) ?_) | (go_at_call 80;refine(H1.out _).mono ?_;rintro e wn ⟨rfl,hbel⟩;have stn:=St.call (by assumption) hbel;clear hbel) | (refine zAA (by assumption) rfl 105 _ _ rfl 0 b2 rfl _ rfl _ _ rfl (zEO hlen.out) (by show (kv b).size=_;rw[zAF,hlen.out,zAF,hlen3.out]) (zBJ _) _ rfl ?_;intro w6 st6))
  exact zBX rfl b2 _ _ _ rfl (st6.at (i:=0) rfl) aggBm rfl (zEO hlen.out) rfl ⟨rfl,st6.below⟩
theorem run_index_byte{P:Program}(w:World)(t e:TypeId)(ht:P.underlying t=some (.array 32 e))(he:P.underlying e=some (.int .u8))(hs:(P.info? e).map (·.size)=some 1)(l:List Nat)(hl:l.length=32)(k:Int)(k0:0≤k)(k1:k<32) :
  (Instr.index t (.agg (kv l)) (.int .i64 k)).run P w=.ok (.int .u8 (l.getD k.toNat 0:Nat)) w:=by
 cases hq:P.info? e with
 |none=>simp[hq] at hs
 |some i =>
  have hz:i.size=1:=by simpa[hq] using hs
  have hp:=zIL (P:=P) w e he l k.toNat (by omega);simp only[Instr.index,Sem.run_bind,run_underlying ht,Result.andThen_ok,asIntOf,Sem.run_pure];simp[sizeOf,typeInfo,hq,hz,k0,k1,hp]
theorem Len_calls(b:List Nat)(hk:Key b)(w:World) :
  Calls Tryz.prog 112 #[.agg (kv b)] w fun e w'=>e=.returned (.int .i64 (lenN b:Nat))∧Below w.heap.size w w':=by
 have hlen:Hid (b.length=32):=hk.len;have HK:=Lib.hid hk;clear hk;have st:=St.init w;go_enter Tryz.func112,Tryz.ntmps112
 go_wp2_with (first | (refine zAD (by assumption) rfl 105 _ rfl _ rfl ?_;intro b1 w1 st1;clear st) | (refine zAC rfl 105 _ rfl b1 rfl _ aggBm rfl _ _ (St.at (by assumption) (i:=0) rfl) (zEO hlen.out) ?_))
 go_loop [3,7] (fun n i=>∃k N:Int,0≤k∧k≤32∧0≤N∧N≤8*k∧Hid (N=(((List.range k.toNat).map fun j=>Lib.onesCount (b.getD j 0)).sum:Nat))∧n=.int .i64 N∧i=.int .i64 k) (fun _ i=>(32 - intOf i).toNat)
 case atStart=>exact⟨0,0,by omega,by omega,by omega,by omega,rfl,rfl,rfl⟩
 case round =>
  obtain⟨k,N,k0,k1,n0,n1,hN,rfl,rfl⟩:=hrel
  by_cases hlt:k<32
  ·have hidx:∀w,(Instr.index 105 (.agg (kv b)) (.int .i64 k)).run Tryz.prog w=.ok (.int .u8 (b.getD k.toNat 0:Nat)) w:=fun w=>run_index_byte w _ _ aggBm byteT zGN b hlen.out k k0 hlt
   have hc:=HK.out.get k.toNat;have ho:=ones_le _ hc;have Hones:Hid (∀wx:World,Calls Tryz.prog 149 #[.int .u8 (b.getD k.toNat 0:Nat)] wx fun e w'=>e=.returned (.int .i64 (Lib.onesCount (b.getD k.toNat 0):Nat))∧w'=wx):=fun wx=>by
    have:=Tryz.bits_OnesCount8 (b.getD k.toNat 0:Nat) wx (by omega) (by omega)
    simpa using this
   have HN2:Hid (N+(Lib.onesCount (b.getD k.toNat 0):Nat)=(((List.range (k+1).toNat).map fun j=>Lib.onesCount (b.getD j 0)).sum:Nat)):=by
    unfold Hid;rw[show (k+1).toNat=k.toNat+1 by omega,List.range_succ,List.map_append,List.sum_append,hN.out];simp
   have o0:(0:Int)≤(Lib.onesCount (b.getD k.toNat 0):Nat):=by omega
   have o1:((Lib.onesCount (b.getD k.toNat 0):Nat):Int)≤8:=by omega
   clear hN hc ho;generalize ((Lib.onesCount (b.getD k.toNat 0):Nat):Int)=O at *;generalize ((b.getD k.toNat 0:Nat):Int)=X at *
   go_wp2_with (go_at_call 149;refine(Hones.out _).mono ?_;rintro e w2 ⟨rfl,rfl⟩)
   go_round
   case rel=>exact⟨k+1,N+O,by omega,by omega,by omega,by omega,HN2.out,rfl,rfl⟩
   case measure=>simp[intOf];omega
  ·have e:Hid (N=(lenN b:Nat)):=by
    unfold Hid lenN;rw[hN.out,show k.toNat=32 by omega]
   clear hN;go_wp2;go_ret;exact⟨ret_int e.out,st1.below⟩
end
end Go.Proofs.YtlcngapphloafaaGreatDoor
