/- Parts of the proof that are used by the claim: Sha4. No condition is added here. -/
import Derived.Test.YtlcngapphloafaaGreatDoorPk9
import Derived.Test.YtlcngapphloafaaGreatDoorPk10
namespace Go.Proofs.YtlcngapphloafaaGreatDoor
section
set_option maxHeartbeats 2000000
open Go Go.RowKit
theorem Blocks_calls(n:Nat)(hn:n≤1099511627776)(w:World):Calls Tryz.prog 188 #[.int .i64 n] w fun e w'=>e=.returned (.int .i64 (((n+72) / 64:Nat):Int))∧w'=w:=by
 go_enter Tryz.func188,Tryz.ntmps188;go_wp2;go_ret;exact⟨congrArg (fun x=>Ending.returned (Value.int .i64 x)) (by omega),rfl⟩
def padN(l:List Nat):Nat:=64*((l.length+72) / 64)
def padI(l:List Nat):Nat→List Nat
 |0=>(l++List.replicate (padN l - l.length) 0).set l.length 128
 |i+1=>(padI l i).set (padN l - 1 - i) (l.length*8 / 2^(8*i)%256)
def padF(l:List Nat):List Nat:=padI l 8
theorem padN_le(l:List Nat):l.length+9≤padN l:=by unfold padN;omega
theorem padI_len(l:List Nat):∀i,(padI l i).length=padN l
 |0=>by have:=padN_le l;simp[padI];omega
 |i+1=>by rw[padI,List.length_set];exact padI_len l i
theorem padI_lt(l:List Nat)(h:∀x∈l,x<256):∀i,∀x∈padI l i,x<256
 |0,x,hx=>by
  rcases List.mem_or_eq_of_mem_set hx with hx | rfl
  ·rcases List.mem_append.1 hx with hx | hx
   ·exact h x hx
   ·rw[(List.mem_replicate.1 hx).2];decide
  ·decide
 |i+1,x,hx=>by
  rcases List.mem_or_eq_of_mem_set hx with hx | rfl
  ·exact padI_lt l h i x hx
  ·exact Nat.mod_lt _ (by decide)
theorem kv_made(n:Nat):madeCells (Value.int .u8 0).cells (n*1)=kv (List.replicate n 0):=by
 unfold madeCells kv;apply Array.ext_getElem?;intro i
 by_cases h:i<n<;>simp[h,Value.cells,Nat.mod_one]
theorem zDU:(Tryz.prog.info? 5).bind (·.zero)=some (.int .u8 0):=by kernel_rfl
theorem zCN:(Tryz.prog.info? 5).map (·.size)=some 1:=by kernel_rfl
theorem zFD:(Tryz.prog.info? 5).map (·.bytes)=some 1:=by kernel_rfl
theorem zCC:Tryz.prog.underlying 22=some (.slice 5):=by kernel_rfl
theorem pad_copy(l:List Nat)(N:Nat):(zAJ l++(kv (List.replicate N 0)).toList.drop (zAJ l).length).toArray=kv (l++List.replicate (N - l.length) 0):=by
 rw[zCJ,zAI,←zBK]
 congr 1
 rw[zCB]
 congr 1
 simp[zAJ]
set_option maxRecDepth 20000 in
theorem Pad_calls(l:List Nat)(v:Value)(w:World)(hv:RdB w v l)(hl:l.length≤1099511627776) :
  Calls Tryz.prog 162 #[v] w fun e w'=>∃b,e=.returned (.slice (some ⟨b,0,none⟩) (padN l) (padN l))∧w.heap.size≤b∧w'.heap[b]?=some (.cells (kv (padF l)) 5 (0,0))∧Below w.heap.size w w':=by
 obtain⟨a,cap,rfl,Hc⟩:=hv.open;clear hv;have hB:=fun wx=>Blocks_calls l.length hl wx
 have hpl:=padN_le l;have hpe:padN l=64*((l.length+72) / 64):=rfl;have hph:padN l≤l.length+72:=by omega
 have hM:(64:Int)*(((l.length+72) / 64:Nat):Int)=(padN l:Int):=by rw[hpe];omega
 generalize (((l.length+72) / 64:Nat):Int)=M at *;have HB:=Lib.hid hB;have HP:Hid (∀k,k<8→padI l (k+1)=(padI l k).set (padN l - 1 - k) (l.length*8 / 2^(8*k)%256)):=fun _ _=>rfl
 have HP0:Hid (padI l 0=(l++List.replicate (padN l - l.length) 0).set l.length 128):=rfl;have HPl:=Lib.hid (padI_len l);have HF:Hid (padF l=padI l 8):=rfl;clear hpe hB;generalize padN l=N at *;have st:=St.init w;go_enter Tryz.func162,Tryz.ntmps162
 go_wp2_with (first
  |(go_at_call 188;refine(HB.out w).mono ?_;rintro e wn ⟨rfl,hwn⟩;obtain rfl:=hwn)
  |(refine zIX st rfl 22 _ _ rfl 5 _ 1 1 zCC zDU zCN zFD .i64 .i64 (N:Int) (N:Int) rfl rfl (by omega) (by omega) (by omega) (by omega) ?_;intro b1 w1 st1;rw[Int.toNat_natCast] at st1 ⊢;rw[kv_made] at st1;have hb1:=st1.above (i:=0) rfl;clear st)
  |(refine wpList_copyR st1 rfl _ _ 22 22 rfl 5 zCC zCN 0 b1 N N rfl _ 5 rfl a l.length cap rfl (zAJ l) (by rw[zAI];exact(Nat.min_eq_left (by omega)).symm) ?_ (by rw[zAI,zAF,List.length_replicate];omega) (bcells_one l) _ (pad_copy l N) _ rfl ?_
    ·intro hpos
     rw[zAI] at hpos;obtain⟨sb,off,rfl,hc⟩:=Hc.out hpos;refine⟨_,rfl,fun j v hj=>?_⟩;have hjl:j<l.length:=by have:=(List.getElem?_eq_some_iff.1 hj).1;rwa [zAI] at this
     rw[zHP l j hjl] at hj;injection hj with hj;subst hj;have hadd:(⟨sb,off,none⟩:Addr).add j=⟨sb,off+j,none⟩:=by unfold Addr.add;split<;>simp_all
     rw[hadd];exact hc _ st1.drop.below j hjl
    intro w2 st2;clear st1)
  |(refine zDG st2 rfl 5 _ _ rfl 0 b1 l.length rfl (.int .u8 128) rfl _ _ rfl zCN rfl (by rw[zAF,List.length_append,List.length_replicate];omega) rfl _ (kv_set _ _ 128) _ rfl ?_;intro w3 st3;clear st2))
 rw[←HP0.out] at st3
 go_loopw [22] (fun i wr=>∃k:Int,0≤k∧k≤8∧i=.int .i64 k∧St wn.heap.size wn [(b1,kv (padI l k.toNat),5)] wr) (fun i _=>(8 - intOf i).toNat)
 case atStart=>exact⟨0,by omega,by omega,rfl,st3⟩
 case round =>
  obtain⟨k,k0,k1,rfl,st4⟩:=hrel;clear st3
  by_cases hlt:k<8
  ·have Hrow:Hid ((kv (padI l k.toNat)).setIfInBounds ((N:Int) - 1 - k).toNat (.int .u8 ((l.length:Int)*8 / 2^(8*k).toNat%256))=kv (padI l (k+1).toNat)):=by
    unfold Hid;rw[show ((l.length:Int)*8 / 2^(8*k).toNat%256)=((l.length*8 / 2^(8*k.toNat)%256:Nat):Int) by rw[show (8*k).toNat=8*k.toNat by omega];norm_cast];rw[kv_set,show (k+1).toNat=k.toNat+1 by omega,HP.out k.toNat (by omega),show ((N:Int) - 1 - k).toNat=N - 1 - k.toNat by omega]
   have Hsz:Hid (((N:Int) - 1 - k).toNat<(kv (padI l k.toNat)).size):=by unfold Hid;rw[zAF,HPl.out];omega
   go_wp2_with (first
    |(refine zDG st4 rfl 5 _ _ rfl 0 b1 ((N:Int) - 1 - k).toNat rfl (.int .u8 ((l.length:Int)*8 / 2^(8*k).toNat%256)) rfl _ _ rfl zCN rfl Hsz.out rfl _ Hrow.out _ rfl ?_;intro w5 st5;clear st4))
   go_roundw
   case rel=>exact⟨k+1,by omega,by omega,rfl,st5⟩
   case measure=>simp[intOf];omega
  ·obtain rfl:k=8:=by omega
   go_wp2;go_ret;exact⟨b1,rfl,hb1,by rw[HF.out];exact st4.at (i:=0) rfl,st4.below⟩
end
end Go.Proofs.YtlcngapphloafaaGreatDoor
