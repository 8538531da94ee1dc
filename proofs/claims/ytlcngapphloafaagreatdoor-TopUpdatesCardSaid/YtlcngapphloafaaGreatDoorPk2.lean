/- Parts of the proof that are used by the claim: Bits, Bits2, Flip, Flip2, Ints, FErr. No condition is added here. -/
import Derived.Test.YtlcngapphloafaaGreatDoorProg
import Derived.Test.YtlcngapphloafaaGreatDoorPk1
namespace Go.Proofs.YtlcngapphloafaaGreatDoor
section
open Go Go.RowKit
theorem ret_int{k:IntKind}{a b:Int}(h:a=b):Ending.returned (.int k a)=.returned (.int k b):=by rw[h]
structure Key (l:List Nat):Prop where
 len:l.length=32
 lt:∀x∈l,x<256
theorem Key.get{l:List Nat}(h:Key l)(i:Nat):l.getD i 0<256:=by
 rcases Nat.lt_or_ge i l.length with hi | hi
 ·rw[List.getD_eq_getElem?_getD,List.getElem?_eq_getElem hi]
  exact h.lt _ (List.getElem_mem hi)
 ·rw[List.getD_eq_getElem?_getD,List.getElem?_eq_none hi]
  decide
theorem Key.set{l:List Nat}(h:Key l)(i x:Nat)(hx:x<256):Key (l.set i x) :=
 ⟨by rw[List.length_set];exact h.len,fun y hy=>by
  rcases List.mem_or_eq_of_mem_set hy with hy | rfl
  ·exact h.lt y hy
  ·exact hx⟩
def zBO(l:List Nat)(i:Nat):Nat:=l.getD (i / 8) 0 / 2^(7 - i%8)%2
def zDQ(l:List Nat)(i:Int):Int:=if 0≤i∧i<256 then (zBO l i.toNat:Int) else -1
theorem zCQ(l:List Nat)(i:Nat):zBO l i<2:=Nat.mod_lt _ (by decide)
theorem and_one_u8(x:Nat)(h:x<256):bits .and .u8 (x:Int) 1=((x%2:Nat):Int):=by
 have:=bits_mask .u8 8 (by decide) wraps_u8 1 (by decide) (x:Int) (by omega) (by omega)
 simpa using this
theorem bit_walks(c:Nat)(hc:c<256)(i:Int)(h0:0≤i):wrap64 (bits .and .u8 ((c:Int) / 2^(7 - i%8).toNat) 1)=((c / 2^(7 - i.toNat%8)%2:Nat):Int):=by
 have hm:(7 - i%8).toNat=7 - i.toNat%8:=by omega
 rw[hm];have h1:c / 2^(7 - i.toNat%8)<256:=Nat.lt_of_le_of_lt (Nat.div_le_self _ _) hc;have h2:=and_one_u8 _ h1;have h3:((c:Int) / 2^(7 - i.toNat%8))=((c / 2^(7 - i.toNat%8):Nat):Int):=by
  rw[Int.natCast_ediv,Int.natCast_pow];rfl
 rw[h3,h2];unfold wrap64;omega
theorem Bit_in(l:List Nat)(hk:Key l)(i:Int)(h0:0≤i)(h1:i<256)(w:World) :
  Calls Tryz.prog 79 #[.agg (kv l),.int .i64 i] w fun e w'=>e=.returned (.int .i64 (zBO l i.toNat:Nat))∧Below w.heap.size w w':=by
 have hx:(kv l)[(i / 8).toNat]?=some (.int .u8 (l.getD (i / 8).toNat 0:Nat)):=zFX l _ (by rw[hk.len];omega);have hc:=hk.get (i / 8).toNat;have He:Hid (wrap64 (bits .and .u8 (((l.getD (i / 8).toNat 0:Nat):Int) / 2^(7 - i%8).toNat) 1)=(zBO l i.toNat:Nat)):=by
  have:=bit_walks (l.getD (i / 8).toNat 0) hc i h0;unfold zBO;rw[show (i / 8).toNat=i.toNat / 8 by omega] at this ⊢;exact this
 generalize l.getD (i / 8).toNat 0=c at *;have hc0:(0:Int)≤(c:Int):=by omega
 have hc1:(c:Int)<256:=by omega
 clear hc hk;generalize (c:Int)=z at *;go_enter Tryz.func79,Tryz.ntmps79;go_wp2;go_ret;exact⟨ret_int He.out,(Below.refl _ _).alloc (Nat.le_refl _) _⟩
theorem Bit_out(l:List Nat)(i:Int)(h:¬(0≤i∧i<256))(w:World) :
  Calls Tryz.prog 79 #[.agg (kv l),.int .i64 i] w fun e w'=>e=.returned (.int .i64 (-1))∧Below w.heap.size w w':=by
 by_cases h0:i<0
 ·clear h
  go_enter Tryz.func79,Tryz.ntmps79;go_wp2;go_ret;exact⟨rfl,(Below.refl _ _).alloc (Nat.le_refl _) _⟩
 ·have h1:256≤i:=by omega
  have h0:0≤i:=by omega
  clear h;go_enter Tryz.func79,Tryz.ntmps79;go_wp2;go_ret;exact⟨rfl,(Below.refl _ _).alloc (Nat.le_refl _) _⟩
theorem zIC(l:List Nat)(hk:Key l)(i:Int)(w:World) :
  Calls Tryz.prog 79 #[.agg (kv l),.int .i64 i] w fun e w'=>e=.returned (.int .i64 (zDQ l i))∧Below w.heap.size w w':=by
 unfold zDQ
 by_cases h:0≤i∧i<256
 ·rw[if_pos h];exact Bit_in l hk i h.1 h.2 w
 ·rw[if_neg h];exact Bit_out l i h w
end
section
set_option maxHeartbeats 400000
open Go Go.RowKit
def BitLeft(X J:Int)(R:Nat):Prop:=X.toNat / 2^(7 - J).toNat%2=R
theorem bitLeft_step{X J:Int}{R:Nat}(h0:0≤X)(hJ:J<7)(h:BitLeft X J R):BitLeft (X / 2) (J+1) R:=by
 unfold BitLeft at *;rw[←h,show (7 - J).toNat=(7 - (J+1)).toNat+1 by omega,Nat.pow_succ,Nat.mul_comm,←Nat.div_div_eq_div_mul];rw[show (X / 2).toNat=X.toNat / 2 by omega]
theorem bitLeft_end{X J:Int}{R:Nat}(h0:0≤X)(hJ:¬J<7)(h:BitLeft X J R):X%2=(R:Int):=by
 unfold BitLeft at h;rw[show (7 - J).toNat=0 by omega] at h;simp at h;omega
theorem bitLeft_start(l:List Nat)(i:Int)(h0:0≤i)(c:Int)(hc:c=(l.getD (i / 8).toNat 0:Nat)):BitLeft c (i%8) (zBO l i.toNat):=by
 unfold BitLeft zBO;subst hc;rw[show (i / 8).toNat=i.toNat / 8 by omega,show (7 - i%8).toNat=7 - i.toNat%8 by omega];simp
theorem RefBit_in(l:List Nat)(hk:Key l)(i:Int)(h0:0≤i)(h1:i<256)(w:World) :
  Calls Tryz.prog 92 #[.agg (kv l),.int .i64 i] w fun e w'=>e=.returned (.int .i64 (zBO l i.toNat:Nat))∧Below w.heap.size w w':=by
 have hx:(kv l)[(i / 8).toNat]?=some (.int .u8 (l.getD (i / 8).toNat 0:Nat)):=zFX l _ (by rw[hk.len];omega);have hc:=hk.get (i / 8).toNat;have He:Hid (BitLeft (l.getD (i / 8).toNat 0:Nat) (i%8) (zBO l i.toNat)):=bitLeft_start l i h0 _ rfl;generalize l.getD (i / 8).toNat 0=c at *;have hc0:(0:Int)≤(c:Int):=by omega
 have hc1:(c:Int)<256:=by omega
 have hR:=zCQ l i.toNat;clear hc hk;generalize (c:Int)=z at *;generalize zBO l i.toNat=R at *;go_enter Tryz.func92,Tryz.ntmps92;go_wp2
 go_loop [5,6] (fun x j=>∃X J:Int,0≤X∧X<256∧0≤J∧J≤7∧Hid (BitLeft X J R)∧x=.int .i64 X∧j=.int .i64 J) (fun _ j=>(7 - intOf j).toNat)
 case atStart=>exact⟨z,i%8,hc0,hc1,by omega,by omega,He,rfl,rfl⟩
 case round =>
  obtain⟨X,J,q0,q1,q2,q3,q4,rfl,rfl⟩:=hrel;clear He hx hc0 hc1
  by_cases hJ:J<7
  ·go_wp2
   go_round
   case rel=>exact⟨X / 2,J+1,by omega,by omega,by omega,by omega,bitLeft_step q0 hJ q4,rfl,rfl⟩
   case measure=>simp[intOf];omega
  ·go_wp2
   go_ret;exact⟨ret_int (bitLeft_end q0 (by omega) q4),(Below.refl _ _).alloc (Nat.le_refl _) _⟩
theorem RefBit_out(l:List Nat)(i:Int)(h:¬(0≤i∧i<256))(w:World) :
  Calls Tryz.prog 92 #[.agg (kv l),.int .i64 i] w fun e w'=>e=.returned (.int .i64 (-1))∧Below w.heap.size w w':=by
 by_cases h0:i<0
 ·clear h
  go_enter Tryz.func92,Tryz.ntmps92;go_wp2;go_ret;exact⟨rfl,(Below.refl _ _).alloc (Nat.le_refl _) _⟩
 ·have h1:255<i:=by omega
  have h0:0≤i:=by omega
  clear h;go_enter Tryz.func92,Tryz.ntmps92;go_wp2;go_ret;exact⟨rfl,(Below.refl _ _).alloc (Nat.le_refl _) _⟩
theorem RefBit_calls(l:List Nat)(hk:Key l)(i:Int)(w:World) :
  Calls Tryz.prog 92 #[.agg (kv l),.int .i64 i] w fun e w'=>e=.returned (.int .i64 (zDQ l i))∧Below w.heap.size w w':=by
 unfold zDQ
 by_cases h:0≤i∧i<256
 ·rw[if_pos h];exact RefBit_in l hk i h.1 h.2 w
 ·rw[if_neg h];exact RefBit_out l i h w
def valN(i:Nat):Nat:=2^(7 - i%8)
def ValLeft(V J:Int)(R:Nat):Prop:=V.toNat*2^(7 - J).toNat=R
theorem valLeft_step{V J:Int}{R:Nat}(h0:0≤V)(hJ:J<7)(h:ValLeft V J R):ValLeft (V*2) (J+1) R:=by
 unfold ValLeft at *;rw[←h,show (7 - J).toNat=(7 - (J+1)).toNat+1 by omega,Nat.pow_succ,show (V*2).toNat=V.toNat*2 by omega];rw[Nat.mul_assoc,Nat.mul_comm 2]
theorem valLeft_le{V J:Int}{R:Nat}(h0:0≤V)(hJ:J<7)(hR:R≤128)(h:ValLeft V J R):V*2≤128:=by
 have:=valLeft_step h0 hJ h;unfold ValLeft at this;have h2:0<2^(7 - (J+1)).toNat:=Nat.two_pow_pos _;have h3:=Nat.le_mul_of_pos_right (V*2).toNat h2;omega
theorem valLeft_end{V J:Int}{R:Nat}(h0:0≤V)(hJ:¬J<7)(h:ValLeft V J R):V=(R:Int):=by
 unfold ValLeft at h;rw[show (7 - J).toNat=0 by omega] at h;simp at h;omega
theorem valN_le(i:Nat):valN i≤128:=by
 unfold valN;exact Nat.pow_le_pow_right (n:=2) (by decide) (show 7 - i%8≤7 by omega)
theorem value_calls(i:Int)(h0:0≤i)(h1:i<256)(w:World) :
  Calls Tryz.prog 189 #[.int .i64 i] w fun e w'=>e=.returned (.int .i64 (valN i.toNat:Nat))∧w=w':=by
 have He:Hid (ValLeft 1 (i%8) (valN i.toNat)):=by
  unfold Hid ValLeft valN;rw[show (7 - i%8).toNat=7 - i.toNat%8 by omega];simp
 have hR:=valN_le i.toNat;generalize valN i.toNat=R at *;go_enter Tryz.func189,Tryz.ntmps189;go_wp2
 go_loop [3,4] (fun v j=>∃V J:Int,0≤V∧V≤128∧0≤J∧J≤7∧Hid (ValLeft V J R)∧v=.int .i64 V∧j=.int .i64 J) (fun _ j=>(7 - intOf j).toNat)
 case atStart=>exact⟨1,i%8,by omega,by omega,by omega,by omega,He,rfl,rfl⟩
 case round =>
  obtain⟨V,J,q0,q1,q2,q3,q4,rfl,rfl⟩:=hrel;clear He
  by_cases hJ:J<7
  ·have hle:=valLeft_le q0 hJ hR q4
   go_wp2
   go_round
   case rel=>exact⟨V*2,J+1,by omega,by omega,by omega,by omega,valLeft_step q0 hJ q4,rfl,rfl⟩
   case measure=>simp[intOf];omega
  ·go_wp2
   go_ret;exact⟨ret_int (valLeft_end q0 (by omega) q4),rfl⟩
end
section
set_option maxHeartbeats 400000
open Go Go.RowKit
theorem zBL:Tryz.prog.follows .mixedOrders=true:=by kernel_rfl
theorem zEL:(Tryz.prog.info? 37).bind (·.zero)=some (.agg (kv zAH)):=by kernel_rfl
theorem sizeKey:(Tryz.prog.info? 37).map (·.size)=some 32:=by kernel_rfl
theorem zGN:(Tryz.prog.info? 5).map (·.size)=some 1:=by kernel_rfl
theorem zBF:Tryz.prog.underlying 37=some (.array 32 5):=by kernel_rfl
theorem zAX{l:List Nat}(h:l.length=32):(Tryz.prog.info? 37).map (·.size)=some (kv l).size:=by rw[zAF,h];exact sizeKey
theorem kv_set(l:List Nat)(j x:Nat):(kv l).setIfInBounds j (.int .u8 (x:Int))=kv (l.set j x):=by
 unfold kv;simp[List.map_set]
def zGD(l:List Nat)(i:Nat):List Nat:=l.set (i / 8) (l.getD (i / 8) 0 ^^^ valN i)
def flipI(l:List Nat)(i:Int):List Nat:=if 0≤i∧i<256 then zGD l i.toNat else l
theorem xor_u8(a b:Nat)(ha:a<256)(hb:b<256):bits .xor .u8 (a:Int) (b:Int)=((a ^^^ b:Nat):Int):=by
 have ha':a%2^IntKind.u8.bits=a:=Nat.mod_eq_of_lt ha;have hb':b%2^IntKind.u8.bits=b:=Nat.mod_eq_of_lt hb;have h:=Nat.xor_lt_two_pow (n:=8) ha hb;have h1:bits .xor .u8 (a:Int) (b:Int)=IntKind.u8.wrap ((a ^^^ b:Nat):Int):=by
  simp only[bits,BitVec.ofInt_natCast,BitVec.toNat_xor,BitVec.toNat_ofNat,ha',hb']
 rw[h1];exact wraps_u8 _ (Int.natCast_nonneg _) (by omega)
theorem zBJ(l:List Nat):∀u∈(kv l).toList,u.oneCell'=true:=by
 intro u hu;simp only[kv,List.toList_toArray,List.mem_map] at hu;obtain⟨n,_,rfl⟩:=hu;rfl
theorem Flip_in(l:List Nat)(hk:Key l)(i:Int)(h0:0≤i)(h1:i<256)(w:World) :
  Calls Tryz.prog 81 #[.agg (kv l),.int .i64 i] w fun e w'=>e=.returned (.agg (kv (zGD l i.toNat)))∧Below w.heap.size w w':=by
 have hx:(kv l)[(i / 8).toNat]?=some (.int .u8 (l.getD (i / 8).toNat 0:Nat)):=zFX l _ (by rw[hk.len];omega);have hc:=hk.get (i / 8).toNat;have hc0:(0:Int)≤(l.getD (i / 8).toNat 0:Nat):=by omega
 have hc1:((l.getD (i / 8).toNat 0:Nat):Int)<256:=by omega
 have He:Hid ((kv l).setIfInBounds (i / 8).toNat (.int .u8 (bits .xor .u8 ((l.getD (i / 8).toNat 0:Nat):Int) (2^(7 - i%8).toNat%256)))=kv (zGD l i.toNat)):=by
  have hv:=valN_le i.toNat;have e1:(2^(7 - i%8).toNat%256:Int)=((valN i.toNat:Nat):Int):=by
   have:(7 - i%8).toNat=7 - i.toNat%8:=by omega
   rw[this];have h2:(2:Int)^(7 - i.toNat%8)=((valN i.toNat:Nat):Int):=by unfold valN;rw[Int.natCast_pow];rfl
   rw[h2];omega
  unfold Hid;rw[e1,xor_u8 _ _ hc (by omega),kv_set];unfold zGD;rw[show (i / 8).toNat=i.toNat / 8 by omega]
 have hlen:Hid (l.length=32):=hk.len;have hlen2:Hid ((zGD l i.toNat).length=32):=by unfold Hid zGD;rw[List.length_set];exact hk.len
 clear hc hk;generalize ((l.getD (i / 8).toNat 0:Nat):Int)=z at *;generalize zGD l i.toNat=l' at *;have st:=St.init w;go_enter Tryz.func81,Tryz.ntmps81
 go_wp2_with (first | (refine zAD (by assumption) rfl 37 _ rfl _ rfl ?_;intro b1 w1 st1;clear st) | (refine zAE (by assumption) rfl 37 rfl _ zEL ?_;intro b2 w2 st2;clear st1))
 refine zBH 10 st2 zBL (by kernel_rfl) ?_;intro I hI hI';have q:∀wx,I wx→wx.cell? ⟨b1,(i/8).toNat,none⟩=some (.int .u8 z):=fun wx hw=>((hI wx hw).cell (i:=1) rfl _).trans hx
 simp only[List.take_succ_cons,List.take_zero,List.drop_succ_cons,List.drop_zero]
 iterate 10
  (refine Inv.wpInv_step (fun K hK=>?_);go_simp;apply zAL;· (intro wx hw;have q1:=q wx hw;go_simp;(try go_ints);(try go_simp);(try (rw[if_pos (by omega)]));(try go_simp);(first | done | rfl))
   refine hK _ ?_;clear hK K)
 clear q hI hI';refine Inv.wpInv_nil ?_;intro w3 st3;clear st2;refine zDG st3 rfl 5 _ _ rfl 1 b1 (i/8).toNat rfl _ rfl _ _ rfl zGN rfl (by rw[zAF,hlen.out];omega) rfl _ He.out _ rfl ?_;intro w4 st4;clear st3;simp only[List.set_cons_succ,List.set_cons_zero] at st4;clear He hx
 go_wp2_with (first | (refine zAC rfl 37 _ rfl b1 rfl _ zBF rfl _ _ (st4.at (i:=1) rfl) (zAX hlen2.out) ?_) | (refine zAA st4 rfl 37 _ _ rfl 0 b2 rfl _ rfl _ _ rfl (zAX hlen2.out) (by show (kv l').size=_;rw[zAF,hlen2.out,zAF];rfl) (zBJ l') _ rfl ?_;intro w5 st5;clear st4))
 refine zBX rfl b2 _ _ _ rfl (st5.at (i:=0) rfl) zBF rfl (zAX hlen2.out) rfl ⟨rfl,st5.below⟩
end
section
open Go Go.RowKit
theorem flipN_len(l:List Nat)(i:Nat):(zGD l i).length=l.length:=by unfold zGD;rw[List.length_set]
theorem Key.flip{l:List Nat}(h:Key l)(i:Nat):Key (zGD l i):=by
 refine h.set _ _ ?_;have h1:=h.get (i / 8);have h2:=valN_le i;exact Nat.xor_lt_two_pow (n:=8) h1 (by omega)
theorem Flip_out(l:List Nat)(hk:Key l)(i:Int)(h:¬(0≤i∧i<256))(w:World) :
  Calls Tryz.prog 81 #[.agg (kv l),.int .i64 i] w fun e w'=>e=.returned (.agg (kv l))∧Below w.heap.size w w':=by
 have hlen:Hid (l.length=32):=hk.len;clear hk;have st:=St.init w
 by_cases h0:i<0
 all_goals
  first
  |have h1:256≤i:=by omega
   have h2:0≤i:=by omega
   clear h h0
  |clear h
  go_enter Tryz.func81,Tryz.ntmps81
  go_wp2_with (first | (refine zAD (by assumption) rfl 37 _ rfl _ rfl ?_;intro b1 w1 st1;clear st) | (refine zAE (by assumption) rfl 37 rfl _ zEL ?_;intro b2 w2 st2;clear st1) | (refine zAC rfl 37 _ rfl b1 rfl _ zBF rfl _ _ (st2.at (i:=1) rfl) (zAX hlen.out) ?_) | (refine zAA st2 rfl 37 _ _ rfl 0 b2 rfl _ rfl _ _ rfl (zAX hlen.out) (by show (kv l).size=_;rw[zAF,hlen.out,zAF];rfl) (zBJ l) _ rfl ?_;intro w5 st5;clear st2))
  exact zBX rfl b2 _ _ _ rfl (st5.at (i:=0) rfl) zBF rfl (zAX hlen.out) rfl ⟨rfl,st5.below⟩
theorem Flip_calls(l:List Nat)(hk:Key l)(i:Int)(w:World) :
  Calls Tryz.prog 81 #[.agg (kv l),.int .i64 i] w fun e w'=>e=.returned (.agg (kv (flipI l i)))∧Below w.heap.size w w':=by
 unfold flipI
 by_cases h:0≤i∧i<256
 ·rw[if_pos h];exact Flip_in l hk i h.1 h.2 w
 ·rw[if_neg h];exact Flip_out l hk i h w
theorem valueB(i:Int)(h0:0≤i)(h1:i<256)(w:World) :
  Calls Tryz.prog 189 #[.int .i64 i] w fun e w'=>e=.returned (.int .i64 (valN i.toNat:Nat))∧Below w.heap.size w w' :=
 (value_calls i h0 h1 w).mono fun _ _ ⟨he,hw⟩=>⟨he,by rw[←hw];exact Below.refl _ _⟩
theorem xor_two_pow:∀x<256,∀j<8,x ^^^ 2^j=if x / 2^j%2=0 then x+2^j else x - 2^j:=by decide +kernel
theorem xor_fits:∀x<256,∀j<8,(x / 2^j%2=0→x+2^j<256)∧(x / 2^j%2=1→2^j≤x):=by decide +kernel
theorem xor_yes(l:List Nat)(hk:Key l)(i:Nat)(h:zBO l i=0):l.getD (i / 8) 0 ^^^ valN i=l.getD (i / 8) 0+valN i∧l.getD (i / 8) 0+valN i<256:=by
 have h1:=xor_two_pow _ (hk.get (i / 8)) (7 - i%8) (by omega);have h2:=(xor_fits _ (hk.get (i / 8)) (7 - i%8) (by omega)).1 h;unfold zBO at h;rw[if_pos h] at h1;exact⟨h1,h2⟩
theorem xor_no(l:List Nat)(hk:Key l)(i:Nat)(h:zBO l i=1):l.getD (i / 8) 0 ^^^ valN i=l.getD (i / 8) 0 - valN i∧valN i≤l.getD (i / 8) 0:=by
 have h1:=xor_two_pow _ (hk.get (i / 8)) (7 - i%8) (by omega);have h2:=(xor_fits _ (hk.get (i / 8)) (7 - i%8) (by omega)).2 h;unfold zBO at h;rw[if_neg (by omega)] at h1;exact⟨h1,h2⟩
theorem RefFlip_0(l:List Nat)(hk:Key l)(i:Int)(h0:0≤i)(h1:i<256)(hb:zBO l i.toNat=0)(w:World) :
  Calls Tryz.prog 163 #[.agg (kv l),.int .i64 i] w fun e w'=>e=.returned (.agg (kv (zGD l i.toNat)))∧Below w.heap.size w w':=by
 have hx:(kv l)[(i / 8).toNat]?=some (.int .u8 (l.getD (i / 8).toNat 0:Nat)):=zFX l _ (by rw[hk.len];omega);have hc:=hk.get (i / 8).toNat;have hc0:(0:Int)≤(l.getD (i / 8).toNat 0:Nat):=by omega
 have hc1:((l.getD (i / 8).toNat 0:Nat):Int)<256:=by omega
 have hy:=xor_yes l hk i.toNat hb;have hd:(i / 8).toNat=i.toNat / 8:=by omega
 have he0:((l.getD (i / 8).toNat 0:Nat):Int)+(valN i.toNat:Nat)<256:=by rw[hd];omega
 have He:Hid ((kv l).setIfInBounds (i / 8).toNat (.int .u8 (((l.getD (i / 8).toNat 0:Nat):Int)+(valN i.toNat:Nat)))=kv (zGD l i.toNat)):=by
  unfold Hid zGD;rw[hd,hy.1,←kv_set,Int.natCast_add]
 have hv0:(0:Int)≤(valN i.toNat:Nat):=by omega
 have hcall:∀wx:World,Calls Tryz.prog 92 #[.agg (kv l),.int .i64 i] wx fun e w'=>e=.returned (.int .i64 0)∧Below wx.heap.size wx w':=fun wx =>
  (RefBit_in l hk i h0 h1 wx).mono fun e w' ⟨he,hw⟩=>⟨by rw[he,hb];rfl,hw⟩
 have hval:∀wx:World,Calls Tryz.prog 189 #[.int .i64 i] wx fun e w'=>e=.returned (.int .i64 (valN i.toNat:Nat))∧Below wx.heap.size wx w':=valueB i h0 h1
 have hlen:Hid (l.length=32):=hk.len;have hlen2:Hid ((zGD l i.toNat).length=32):=by unfold Hid;rw[flipN_len];exact hk.len
 clear hc hk hy hb hd;generalize ((l.getD (i / 8).toNat 0:Nat):Int)=z at *;generalize ((valN i.toNat:Nat):Int)=v at *;generalize zGD l i.toNat=l' at *;have Hcall:=Lib.hid hcall;have Hval:=Lib.hid hval;clear hcall hval;have st:=St.init w;go_enter Tryz.func163,Tryz.ntmps163
 go_wp2_with (first | (refine zAD (by assumption) rfl 37 _ rfl _ rfl ?_;intro b1 w1 st1;clear st) | (refine zAE (by assumption) rfl 37 rfl _ zEL ?_;intro b2 w2 st2;clear st1) | (refine zAC rfl 37 _ rfl b1 rfl _ zBF rfl _ _ (st2.at (i:=1) rfl) (zAX hlen.out) ?_) | (go_at_call 92;refine(Hcall.out _).mono ?_;rintro e w3 ⟨rfl,hb⟩;have st3:=st2.call hb;clear st2 hb))
 refine zBH 12 st3 zBL (by kernel_rfl) ?_;intro I hI hI';have q:∀wx,I wx→wx.cell? ⟨b1,(i/8).toNat,none⟩=some (.int .u8 z):=fun wx hw=>((hI wx hw).cell (i:=1) rfl _).trans hx
 simp only[List.take_succ_cons,List.take_zero,List.drop_succ_cons,List.drop_zero]
 iterate 8
  (refine Inv.wpInv_step (fun K hK=>?_);go_simp;apply zAL;· (intro wx hw;have q1:=q wx hw;go_simp;(try go_ints);(try go_simp);(try (rw[if_pos (by omega)]));(try go_simp);(first | done | rfl))
   refine hK _ ?_;clear hK K)
 (refine Inv.wpInv_step (fun K hK=>?_);go_simp;refine zDF hI hI' 189 #[.int .i64 i] ?_ (fun wx stx=>Hval.out wx) ?_;· (intro wx hw;go_simp)
  refine hK _ ?_;clear hK K)
 iterate 3
  (refine Inv.wpInv_step (fun K hK=>?_);go_simp;apply zAL;· (intro wx hw;have q1:=q wx hw;go_simp;(try go_ints);(try go_simp);(try (rw[if_pos (by omega)]));(try go_simp);(first | done | rfl))
   refine hK _ ?_;clear hK K)
 clear q hI hI';refine Inv.wpInv_nil ?_;intro w4 st4;clear st3;refine zDG st4 rfl 5 _ _ rfl 1 b1 (i/8).toNat rfl _ rfl _ _ rfl zGN rfl (by rw[zAF,hlen.out];omega) rfl _ He.out _ rfl ?_;intro w5 st5;clear st4;simp only[List.set_cons_succ,List.set_cons_zero] at st5;clear He hx
 go_wp2_with (first | (refine zAC rfl 37 _ rfl b1 rfl _ zBF rfl _ _ (st5.at (i:=1) rfl) (zAX hlen2.out) ?_) | (refine zAA st5 rfl 37 _ _ rfl 0 b2 rfl _ rfl _ _ rfl (zAX hlen2.out) (by show (kv l').size=_;rw[zAF,hlen2.out,zAF];rfl) (zBJ l') _ rfl ?_;intro w6 st6;clear st5))
 exact zBX rfl b2 _ _ _ rfl (st6.at (i:=0) rfl) zBF rfl (zAX hlen2.out) rfl ⟨rfl,st6.below⟩
theorem RefFlip_1(l:List Nat)(hk:Key l)(i:Int)(h0:0≤i)(h1:i<256)(hb:zBO l i.toNat=1)(w:World) :
  Calls Tryz.prog 163 #[.agg (kv l),.int .i64 i] w fun e w'=>e=.returned (.agg (kv (zGD l i.toNat)))∧Below w.heap.size w w':=by
 have hx:(kv l)[(i / 8).toNat]?=some (.int .u8 (l.getD (i / 8).toNat 0:Nat)):=zFX l _ (by rw[hk.len];omega);have hc:=hk.get (i / 8).toNat;have hc0:(0:Int)≤(l.getD (i / 8).toNat 0:Nat):=by omega
 have hc1:((l.getD (i / 8).toNat 0:Nat):Int)<256:=by omega
 have hy:=xor_no l hk i.toNat hb;have hd:(i / 8).toNat=i.toNat / 8:=by omega
 have he0:((valN i.toNat:Nat):Int)≤(l.getD (i / 8).toNat 0:Nat):=by rw[hd];omega
 have He:Hid ((kv l).setIfInBounds (i / 8).toNat (.int .u8 (((l.getD (i / 8).toNat 0:Nat):Int) - (valN i.toNat:Nat)))=kv (zGD l i.toNat)):=by
  unfold Hid zGD;rw[hd,hy.1,←kv_set,Int.natCast_sub hy.2]
 have hv0:(0:Int)≤(valN i.toNat:Nat):=by omega
 have hcall:∀wx:World,Calls Tryz.prog 92 #[.agg (kv l),.int .i64 i] wx fun e w'=>e=.returned (.int .i64 1)∧Below wx.heap.size wx w':=fun wx =>
  (RefBit_in l hk i h0 h1 wx).mono fun e w' ⟨he,hw⟩=>⟨by rw[he,hb];rfl,hw⟩
 have hval:∀wx:World,Calls Tryz.prog 189 #[.int .i64 i] wx fun e w'=>e=.returned (.int .i64 (valN i.toNat:Nat))∧Below wx.heap.size wx w':=valueB i h0 h1
 have hlen:Hid (l.length=32):=hk.len;have hlen2:Hid ((zGD l i.toNat).length=32):=by unfold Hid;rw[flipN_len];exact hk.len
 clear hc hk hy hb hd;generalize ((l.getD (i / 8).toNat 0:Nat):Int)=z at *;generalize ((valN i.toNat:Nat):Int)=v at *;generalize zGD l i.toNat=l' at *;have Hcall:=Lib.hid hcall;have Hval:=Lib.hid hval;clear hcall hval;have st:=St.init w;go_enter Tryz.func163,Tryz.ntmps163
 go_wp2_with (first | (refine zAD (by assumption) rfl 37 _ rfl _ rfl ?_;intro b1 w1 st1;clear st) | (refine zAE (by assumption) rfl 37 rfl _ zEL ?_;intro b2 w2 st2;clear st1) | (refine zAC rfl 37 _ rfl b1 rfl _ zBF rfl _ _ (st2.at (i:=1) rfl) (zAX hlen.out) ?_) | (go_at_call 92;refine(Hcall.out _).mono ?_;rintro e w3 ⟨rfl,hb⟩;have st3:=st2.call hb;clear st2 hb))
 refine zBH 12 st3 zBL (by kernel_rfl) ?_;intro I hI hI';have q:∀wx,I wx→wx.cell? ⟨b1,(i/8).toNat,none⟩=some (.int .u8 z):=fun wx hw=>((hI wx hw).cell (i:=1) rfl _).trans hx
 simp only[List.take_succ_cons,List.take_zero,List.drop_succ_cons,List.drop_zero]
 iterate 8
  (refine Inv.wpInv_step (fun K hK=>?_);go_simp;apply zAL;· (intro wx hw;have q1:=q wx hw;go_simp;(try go_ints);(try go_simp);(try (rw[if_pos (by omega)]));(try go_simp);(first | done | rfl))
   refine hK _ ?_;clear hK K)
 (refine Inv.wpInv_step (fun K hK=>?_);go_simp;refine zDF hI hI' 189 #[.int .i64 i] ?_ (fun wx stx=>Hval.out wx) ?_;· (intro wx hw;go_simp)
  refine hK _ ?_;clear hK K)
 iterate 3
  (refine Inv.wpInv_step (fun K hK=>?_);go_simp;apply zAL;· (intro wx hw;have q1:=q wx hw;go_simp;(try go_ints);(try go_simp);(try (rw[if_pos (by omega)]));(try go_simp);(first | done | rfl))
   refine hK _ ?_;clear hK K)
 clear q hI hI';refine Inv.wpInv_nil ?_;intro w4 st4;clear st3;refine zDG st4 rfl 5 _ _ rfl 1 b1 (i/8).toNat rfl _ rfl _ _ rfl zGN rfl (by rw[zAF,hlen.out];omega) rfl _ He.out _ rfl ?_;intro w5 st5;clear st4;simp only[List.set_cons_succ,List.set_cons_zero] at st5;clear He hx
 go_wp2_with (first | (refine zAC rfl 37 _ rfl b1 rfl _ zBF rfl _ _ (st5.at (i:=1) rfl) (zAX hlen2.out) ?_) | (refine zAA st5 rfl 37 _ _ rfl 0 b2 rfl _ rfl _ _ rfl (zAX hlen2.out) (by show (kv l').size=_;rw[zAF,hlen2.out,zAF];rfl) (zBJ l') _ rfl ?_;intro w6 st6;clear st5))
 exact zBX rfl b2 _ _ _ rfl (st6.at (i:=0) rfl) zBF rfl (zAX hlen2.out) rfl ⟨rfl,st6.below⟩
theorem RefFlip_out(l:List Nat)(hk:Key l)(i:Int)(h:¬(0≤i∧i<256))(w:World) :
  Calls Tryz.prog 163 #[.agg (kv l),.int .i64 i] w fun e w'=>e=.returned (.agg (kv l))∧Below w.heap.size w w':=by
 have hlen:Hid (l.length=32):=hk.len;have hcall:∀wx:World,Calls Tryz.prog 92 #[.agg (kv l),.int .i64 i] wx fun e w'=>e=.returned (.int .i64 (-1))∧Below wx.heap.size wx w':=fun wx =>
  (RefBit_calls l hk i wx).mono fun e w' ⟨he,hw⟩=>⟨by rw[he];unfold zDQ;rw[if_neg h],hw⟩
 have Hcall:=Lib.hid hcall;clear hcall hk h;have st:=St.init w;go_enter Tryz.func163,Tryz.ntmps163
 go_wp2_with (first | (refine zAD (by assumption) rfl 37 _ rfl _ rfl ?_;intro b1 w1 st1;clear st) | (refine zAE (by assumption) rfl 37 rfl _ zEL ?_;intro b2 w2 st2;clear st1) | (refine zAC rfl 37 _ rfl b1 rfl _ zBF rfl _ _ (St.at (by assumption) (i:=1) rfl) (zAX hlen.out) ?_) | (go_at_call 92;refine(Hcall.out _).mono ?_;rintro e w3 ⟨rfl,hb⟩;have st3:=st2.call hb;clear st2 hb) | (refine zAA st3 rfl 37 _ _ rfl 0 b2 rfl _ rfl _ _ rfl (zAX hlen.out) (by show (kv l).size=_;rw[zAF,hlen.out,zAF];rfl) (zBJ l) _ rfl ?_;intro w6 st6;clear st3))
 exact zBX rfl b2 _ _ _ rfl (st6.at (i:=0) rfl) zBF rfl (zAX hlen.out) rfl ⟨rfl,st6.below⟩
theorem RefFlip_calls(l:List Nat)(hk:Key l)(i:Int)(w:World) :
  Calls Tryz.prog 163 #[.agg (kv l),.int .i64 i] w fun e w'=>e=.returned (.agg (kv (flipI l i)))∧Below w.heap.size w w':=by
 unfold flipI
 by_cases h:0≤i∧i<256
 ·rw[if_pos h]
  have hb:=zCQ l i.toNat;rcases Nat.eq_zero_or_pos (zBO l i.toNat) with h2 | h2
  ·exact RefFlip_0 l hk i h.1 h.2 h2 w
  ·exact RefFlip_1 l hk i h.1 h.2 (by omega) w
 ·rw[if_neg h];exact RefFlip_out l hk i h w
end
section
open Go Go.RowKit
def iv(l:List Int):Array Value:=(l.map fun n=>Value.int .i64 n).toArray
theorem iv_get(l:List Int)(i:Nat)(h:i<l.length):(iv l)[i]?=some (.int .i64 (l.getD i 0)):=by simp[iv,h]
theorem zeroInt:(Tryz.prog.info? 3).bind (·.zero)=some (.int .i64 0):=by kernel_rfl
theorem sizeInt:(Tryz.prog.info? 3).map (·.size)=some 1:=by kernel_rfl
theorem bytesInt:(Tryz.prog.info? 3).map (·.bytes)=some 8:=by kernel_rfl
theorem sliceInt:Tryz.prog.underlying 250=some (.slice 3):=by kernel_rfl
end
section
set_option maxHeartbeats 1000000
open Go Go.RowKit
attribute [local irreducible] Inv.wpInv Mix.wpUp
def IsErr(w:World):Value→List (ByteArray×Int)→Value→Prop
 |v,[],core=>v=core
 |v,s::l,core=>∃b inner,v=.iface 208 (.pointer (some ⟨b,0,none⟩))∧w.heap[b]?=some (.cells #[.string s.1,.int .i64 s.2,inner] 210 (0,0))∧IsErr w inner l core
theorem IsErr.call{w w':World}(hb:Below w.heap.size w w'):∀{l:List (ByteArray×Int)} {v core:Value},IsErr w v l core→IsErr w' v l core
 |[],_,_,h=>h
 |_::_,_,_,⟨b,inner,hv,hc,hi⟩=>⟨b,inner,hv,by rw[hb.block _ (zAG hc)];exact hc,IsErr.call hb hi⟩
theorem IsErr.iface{w:World}{l:List (ByteArray×Int)}{v:Value}{ct:TypeId}{cu:Value}(h:IsErr w v l (.iface ct cu)):∃t u,v=.iface t u:=by
 cases l with
 |nil=>exact⟨ct,cu,h⟩
 |cons s l=>obtain⟨b,inner,hv,_⟩:=h;exact⟨_,_,hv⟩
theorem builtFault(op:ByteArray)(a:Int)(t:TypeId)(u:Value):Tryz.prog.built 210 [(0,.string op),(1,.int .i64 a),(2,.iface t u)]=some #[.string op,.int .i64 a,.iface t u]:=by kernel_rfl
theorem zJJ(op:ByteArray)(n:Int)(t:TypeId)(u:Value)(w:World) :
  Calls Tryz.prog 58 #[.string op,.int .i64 n,.iface t u] w fun e w'=>∃b,e=.returned (.iface 208 (.pointer (some ⟨b,0,none⟩)))∧w.heap.size≤b∧w'.heap[b]?=some (.cells #[.string op,.int .i64 n,.iface t u] 210 (0,0))∧Below w.heap.size w w':=by
 have st:=St.init w;have hB:=builtFault op n t u;go_enter Tryz.func58,Tryz.ntmps58
 go_wp2_with (first | (refine zAM rfl 210 _ rfl [(0,.string op),(1,.int .i64 n),(2,.iface t u)] ?_ _ hB ?_;· (simp[Act.eval];done)) | (refine zAD (by assumption) rfl 210 _ rfl _ rfl ?_;intro b1 w1 st1;clear st))
 go_ret;exact⟨b1,rfl,st1.above (i:=0) rfl,st1.at (i:=0) rfl,st1.below⟩
end
end Go.Proofs.YtlcngapphloafaaGreatDoor
