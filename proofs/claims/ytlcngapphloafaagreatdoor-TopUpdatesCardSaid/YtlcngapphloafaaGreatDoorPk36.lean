/- Parts of the proof that are used by the claim: Srt1. No condition is added here. -/
import Derived.Test.YtlcngapphloafaaGreatDoorPk35
import Derived.Shelf.SlSortCmp.InsertionK
namespace Go.Proofs.YtlcngapphloafaaGreatDoor
section
open Go Go.RowKit
attribute [local irreducible] Inv.wpInv Mix.wpUp
section
variable {P:Program} {ops:Array Oper} {rest:List Oper} {o:Oper} {a:Act} {w w0:World} {Q:Exit→Act→World→Prop} {B:Nat} {L:List (Nat×Array Value×TypeId)}
theorem wpList_boxD(st:St B w0 L w)(hgd:o.guard=none)(ty:TypeId)(x:Operand)(ho:o.op=.box ty x)(cs:Array Value)(hx:a.eval x=.agg cs)
  (h:∀b w1,St B w0 ((b,cs,ty)::L) w1→w1.drawn=w.drawn→wpList P ops Q rest (a.put o.dst (.pointer (some ⟨b,0,none⟩))) w1):wpList P ops Q (o::rest) a w:=by
 refine wpList_plain hgd fun K hK=>?_
 unfold Oper.wp execOp;simp only[ho,hx,Instr.box,newVar,newRow,Sem.run_bind,run_newObj,Sem.run_pure,Result.andThen_ok,Oper.upon];exact hK _ _ (h _ _ (st.new cs ty) rfl)
end
theorem grow_of{w w':World}(hb:Below w.heap.size w w')(hd:w.drawn≤w'.drawn):∃(q:Nat) (os':Array Obj),w'=Go.Sort.grow (w.drewN q) os':=by
 refine⟨w'.drawn - w.drawn,w'.heap.extract w.heap.size w'.heap.size,?_⟩;have h1:w'.heap=w.heap++w'.heap.extract w.heap.size w'.heap.size:=by
  refine Array.ext_getElem? fun i=>?_
  rcases Nat.lt_or_ge i w.heap.size with h | h
  ·rw[hb.block i h,Array.getElem?_append_left h]
  ·rw[Array.getElem?_append_right h,Array.getElem?_extract]
   have:=hb.size;rcases Nat.lt_or_ge i w'.heap.size with h2 | h2
   ·rw[if_pos (by omega)]
    congr 1
    omega
   ·rw[if_neg (by omega),Array.getElem?_eq_none h2]
 have h2:=hb.os;have h3:=hb.tape;have h4:=hb.output
 cases w
 cases w'
 simp only at h1 h2 h3 h4 hd;subst h2 h3 h4;unfold Go.Sort.grow World.drewN;simp only[World.mk.injEq,true_and,and_true];exact⟨h1,by omega⟩
theorem bytesCompare_callsD(w:World)(b1 b2 c1 c2:Nat)(x y:List Nat)(hx:w.heap[b1]?=some (.cells (kv x) 37 (0,0)))(hy:w.heap[b2]?=some (.cells (kv y) 37 (0,0)))(kx:Key x)(ky:Key y) :
  Calls Tryz.prog 176 #[.slice (some ⟨b1,0,none⟩) 32 c1,.slice (some ⟨b2,0,none⟩) 32 c2] w fun e w'=>e=.returned (.int .i64 (zDV x y))∧w'=w:=by
 have h:(callFunc 204 #[.slice (some ⟨b1,0,none⟩) 32 c1,.slice (some ⟨b2,0,none⟩) 32 c2]).run Tryz.prog w=.ok (.value (.int .i64 (zDV x y))) w:=by
  rw[run_callFunc_extern Tryz.func204 (by kernel_rfl) (by kernel_rfl) (by kernel_rfl) (e:=Extern.BytealgCompare.compare) (by kernel_rfl)]
  have:=zIZ (P:=Tryz.prog) w b1 b2 0 0 c1 c2 x y (bytesAt_row hx) (bytesAt_row hy) (by rw[kx.len,ky.len]) kx.lt ky.lt;rw[kx.len,ky.len] at this;rw[this];rfl
 clear hx hy;go_enter Tryz.func176,Tryz.ntmps176;go_wp2;go_ret;exact⟨rfl,rfl⟩
set_option maxRecDepth 20000 in
theorem Compare_callsD(a b:List Nat)(ha:Key a)(hb:Key b)(w:World) :
  Calls Tryz.prog 154 #[.agg (kv a),.agg (kv b)] w fun e w'=>e=.returned (.int .i64 (zDV a b))∧Below w.heap.size w w'∧w.drawn≤w'.drawn:=by
 have HA:=Lib.hid ha;have HB:=Lib.hid hb;clear ha hb;have st:=St.init w;go_enter Tryz.func154,Tryz.ntmps154
 go_wp2_with (first | (refine wpList_boxD st rfl 37 _ rfl _ rfl ?_;intro b1 w1 st1 hd1;clear st) | (refine wpList_boxD st1 rfl 37 _ rfl _ rfl ?_;intro b2 w2 st2 hd2;clear st1))
 have hd2':w.drawn≤w2.drawn:=by omega
 clear hd1 hd2;obtain⟨I,hI,hI'⟩:∃I:World→Prop,(∀wx,I wx→St w.heap.size w [(b2,kv b,37),(b1,kv a,37)] wx∧w.drawn≤wx.drawn)∧(∀wx,St w.heap.size w [(b2,kv b,37),(b1,kv a,37)] wx∧w.drawn≤wx.drawn→I wx):=⟨_,fun _ h=>h,fun _ h=>h⟩
 have HCC:Hid (∀wx,I wx→Calls Tryz.prog 176 #[.slice (some ⟨b1,0,none⟩) 32 32,.slice (some ⟨b2,0,none⟩) 32 32] wx fun e w'=>e=.returned (.int .i64 (zDV a b))∧I w'):=fun wx hw =>
  (bytesCompare_callsD wx b1 b2 32 32 a b ((hI wx hw).1.at (i:=1) rfl) ((hI wx hw).1.at (i:=0) rfl) HA.out HB.out).mono (fun e w' h=>⟨h.1,h.2▸hw⟩)
 refine Inv.wp_region_inv 4 I zBL (by kernel_rfl) (hI' _ ⟨st2.drew,Nat.le_succ_of_le hd2'⟩) ?_;simp only[List.take_succ_cons,List.take_zero,List.drop_succ_cons,List.drop_zero]
 iterate 2
  (refine Inv.wpInv_step (fun K hK=>?_);go_simp;apply zAL;· (intro wx hw;go_simp;(try go_ints);(try go_simp);(try (rw[if_pos (by omega)]));(try go_simp);(first | done | rfl))
   refine hK _ ?_;clear hK K)
 (refine Inv.wpInv_step (fun K hK=>?_);go_simp;refine⟨.int .i64 (zDV a b),zDM 176 #[.slice (some ⟨b1,0,none⟩) 32 32,.slice (some ⟨b2,0,none⟩) 32 32] ?_ HCC.out,?_⟩;· (intro wx hw;go_simp)
  refine hK _ ?_;clear hK K)
 iterate 1
  (refine Inv.wpInv_step (fun K hK=>?_);go_simp;apply zAL;· (intro wx hw;go_simp;(try go_ints);(try go_simp);(try (rw[if_pos (by omega)]));(try go_simp);(first | done | rfl))
   refine hK _ ?_;clear hK K)
 refine Inv.wpInv_nil ?_;intro w4 hw4;have hw4:=hI w4 hw4;have H4:=Lib.hid hw4;clear st2 hd2' hw4;go_wp2;go_ret;exact⟨rfl,H4.out.1.below,H4.out.2⟩
theorem sortFn_callsD(c d:Chg)(hk:Key c.k)(hd:Key d.k)(w:World) :
  Calls Tryz.prog 153 #[.agg (chc c).toArray,.agg (chc d).toArray] w fun e w'=>e=.returned (.int .i64 (zDV c.k d.k))∧Below w.heap.size w w'∧w.drawn≤w'.drawn:=by
 have st:=St.init w;have HK:=Lib.hid (chc_key c hk.len);have HS:=Lib.hid (zDS c hk.len);have HK2:=Lib.hid (chc_key d hd.len);have HS2:=Lib.hid (zDS d hd.len);have HC:=Lib.hid (fun wx=>Compare_callsD c.k d.k hk hd wx);generalize (chc c).toArray=cc at *;generalize (chc d).toArray=dd at *;go_enter Tryz.func153,Tryz.ntmps153
 go_wp2_with (first
  |(refine wpList_boxD st rfl 276 _ rfl cc rfl ?_;intro b1 w1 st1 hd1;clear st)
  |(refine wpList_boxD st1 rfl 276 _ rfl dd rfl ?_;intro b2 w2 st2 hd2;clear st1)
  |((with_reducible refine zBA 37 ?_);first
    |(refine zAP rfl 37 _ rfl b1 0 32 rfl zBN _ _ _ (st2.at (i:=1) rfl) zBC (by rw[HS.out];decide) _ HK.out ?_)
    |(refine zAP rfl 37 _ rfl b2 0 32 rfl zBN _ _ _ (st2.at (i:=0) rfl) zBC (by rw[HS2.out];decide) _ HK2.out ?_))
  |(go_at_call 154;refine(HC.out _).mono ?_;rintro e w3 ⟨rfl,hb3,hd3⟩;have st3:=st2.call hb3;clear st2 hb3))
 go_ret;exact⟨rfl,st3.below,by omega⟩
end
end Go.Proofs.YtlcngapphloafaaGreatDoor
