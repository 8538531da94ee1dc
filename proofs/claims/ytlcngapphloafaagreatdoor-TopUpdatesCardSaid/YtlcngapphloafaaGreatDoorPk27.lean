/- Parts of the proof that are used by the claim: Rem, GetT, TDel, Grw, ProveT, Ch1. No condition is added here. -/
import Derived.Test.YtlcngapphloafaaGreatDoorPk26
import Derived.Defers
import Derived.Test.YtlcngapphloafaaGreatDoorPk25
import Derived.Test.YtlcngapphloafaaGreatDoorPk23
namespace Go.Proofs.YtlcngapphloafaaGreatDoor
section
set_option maxHeartbeats 4000000
open Go Go.RowKit
attribute [local irreducible] Inv.wpInv Mix.wpUp
theorem remClose(b9 b5 b8:Nat)(f:Bool)(p5 p8:Option Addr)(u:FrameMode)(w:World)(h9:w.cell? ⟨b9,0,none⟩=some (.bool f))(h5:w.cell? ⟨b5,0,none⟩=some (.pointer p5))(h8:w.heap[b8]?=some (.cells #[.pointer p8] 59 (0,0))) :
  CallsD Tryz.prog 173 #[.pointer (some ⟨b9,0,none⟩),.pointer (some ⟨b5,0,none⟩),.pointer (some ⟨b8,0,none⟩)] u w
   fun e u' w'=>u'=u∧e=.returned (.tuple #[])∧w.grownBy w' (some b8)∧w'.heap[b8]?=some (.cells #[.pointer (if f then p8 else p5)] 59 (0,0)):=by
 cases f
 ·go_enter_d Tryz.func173,Tryz.ntmps173
  go_wp2_with (first
   |((with_reducible refine zAN 59 ?_);refine zDR rfl 59 _ _ rfl b8 0 rfl (.pointer p5) rfl _ _ h8 zFU rfl Nat.one_pos rfl _ rfl ?_;intro w2 hg2 ht2))
  go_end0
  exact⟨rfl,hg2,ht2⟩
 ·go_enter_d Tryz.func173,Tryz.ntmps173
  go_wp2
  go_end0
  exact⟨rfl,⟨rfl,rfl,rfl,Nat.le_refl _,fun _ _ _=>rfl⟩,h8⟩
def RemPost(KK:List Int)(bits:Int)(hb cb:Nat)(n c:Int)(t:Tr)(res:Option Tr)(w:World)(e:Ending)(w':World):Prop :=
 ∃p n',e=.returned (.tuple #[.pointer p,.bool res.isSome])∧RepT KK bits w' p (res.getD t)∧w.grownBy w' (some cb)∧HasH hb cb bits n' w'∧n≤n'∧n'≤n+c
theorem aggBool:∃d,Tryz.prog.underlying 4=some d∧zGJ d=false:=by
 have h:(Tryz.prog.underlying 4).map zGJ=some false:=by kernel_rfl
 cases hq:Tryz.prog.underlying 4 with
 |none=>rw[hq] at h;cases h
 |some d=>rw[hq] at h;exact⟨d,rfl,Option.some.inj h⟩
theorem zeroBool:(Tryz.prog.info? 4).bind (·.zero)=some (.bool false):=by kernel_rfl
theorem zHA:(Tryz.prog.info? 4).map (·.size)=some 1:=by kernel_rfl
theorem rem_out{KK:List Int}{bits:Int}{hb cb:Nat}{n m c:Int}{t:Tr}{res:Option Tr}{w wd:World}{b9 b8 b6 b5:Nat}{ck:Array Value}{f:Bool}{p5 p8:Option Addr}{tmps:Array Value}(hh:HasH hb cb bits n w)
  (st:StH w cb m [(b9,#[.bool f],4),(b8,#[.pointer p8],59),(b6,ck,37),(b5,#[.pointer p5],59)] wd) (hf:f=res.isSome) (hr:RepT KK bits wd (if f then p8 else p5) (res.getD t)) (h1:n≤m) (h2:m≤n+c)
  (ht8:tmps.getD 8 undef=.pointer (some ⟨b8,0,none⟩)) (ht9:tmps.getD 9 undef=.pointer (some ⟨b9,0,none⟩)) :
  Leaves Tryz.prog (Tryz.f151) tmps (RemPost KK bits hb cb n c t res w) [{target:=.fn (.func 173) #[.pointer (some ⟨b9,0,none⟩),.pointer (some ⟨b5,0,none⟩),.pointer (some ⟨b8,0,none⟩)],args:=#[]}] .returning wd:=by
 have hr8:=st.at (i:=1) rfl;refine leaves_cons (f:=173) (args:=#[.pointer (some ⟨b9,0,none⟩),.pointer (some ⟨b5,0,none⟩),.pointer (some ⟨b8,0,none⟩)]) (by simp) (by simp[go_sem]) ?_;refine CallsD.mono (remClose b9 b5 b8 f p5 p8 .returning wd (st.cell (i:=0) rfl 0) (st.cell (i:=3) rfl 0) hr8) ?_;rintro e u' w2 ⟨rfl,rfl,hg,hrow⟩;have st2:StH w cb m [(b9,#[.bool f],4),(b8,#[.pointer (if f then p8 else p5)],59),(b6,ck,37),(b5,#[.pointer p5],59)] w2:=St.turn st (i:=1) rfl hg hrow rfl;have hc8:=st2.cell (i:=1) rfl 0;have hc9:=st2.cell (i:=0) rfl 0;refine⟨.tuple #[.pointer (if f then p8 else p5),.bool f],results_cells2 rfl _ _ ht8 ht9 (zES aggPN hc8) (zES aggBool hc9),?_⟩;exact⟨_,m,by rw[hf],hr.box hr8 (by decide) (fun i x=>by rcases i with _ | i<;>simp) hg,StH.grown st2,StH.has st2 hh,h1,h2⟩
set_option maxRecDepth 20000 in
theorem rem_nil(KK:List Int)(k:List Nat)(hk:Key k)(d:Int)(hb cb:Nat)(bits n c:Int)(w:World)(p:Option Addr)(hc:0≤c)(hh:HasH hb cb bits n w)(ht:RepT KK bits w p .nil) :
  Calls Tryz.prog 151 #[.pointer (some ⟨hb,0,none⟩),.pointer p,.agg (kv k),.int .i64 d] w (RemPost KK bits hb cb n c .nil none w):=by
 have HH:=Lib.hid hh;have HT:=Lib.hid ht;have Hk:=Lib.hid hk.len;have st:=St.init w;have HKd:=Lib.hid (fun wx (hb:Below w.heap.size w wx)=>zBW KK bits .nil p wx (HT.out.call hb));clear hh ht hk
 go_enter_defers Tryz.func151,Tryz.ntmps151
 go_wp2_with (first
  |(refine zCO st rfl 59 _ rfl (.pointer p) rfl ?_;intro b5 w1 st1;clear st)
  |(refine zAD st1 rfl 37 _ rfl (kv k) rfl ?_;intro b6 w2 st2;clear st1)
  |((with_reducible refine zAW 59 ?_);refine zCS st2 rfl 59 rfl _ zeroPN ?_;intro b8 w3 st3;clear st2)
  |((with_reducible refine zAW 4 ?_);refine zCS st3 rfl 4 rfl _ zeroBool ?_;intro b9 w4 st4;clear st3;have hc5:=st4.cell (i:=3) rfl 0)
  |(go_at_call 39;refine(HKd.out _ st4.below).mono ?_;rintro e w5 ⟨rfl,rfl⟩))
 have st6:=StH.init HH.out st4;clear st4 hc5;have q:∀wx,StH w cb n [(b9,#[.bool false],4),(b8,#[.pointer none],59),(b6,kv k,37),(b5,#[.pointer p],59)] wx→wx.cell? ⟨b8,0,none⟩=some (.pointer none)∧wx.cell? ⟨b9,0,none⟩=some (.bool false):=fun wx h=>⟨h.cell (i:=1) rfl 0,h.cell (i:=0) rfl 0⟩
 refine Inv.wp_region_inv 4 (StH w cb n [(b9,#[.bool false],4),(b8,#[.pointer none],59),(b6,kv k,37),(b5,#[.pointer p],59)]) zBL (by kernel_rfl) (St.drew st6) ?_;simp only[List.take_succ_cons,List.take_zero,List.drop_succ_cons,List.drop_zero]
 iterate 2
  (refine Inv.wpInv_step (fun K hK=>?_);go_simp;apply zAL;· (intro wx hw;have q1:=q wx hw;go_simp;(try go_ints);(try go_simp);(try (rw[if_pos (by omega)]));(try go_simp);(first | done | rfl))
   refine hK _ ?_;clear hK K)
 (refine Inv.wpInv_step (fun K hK=>?_);go_simp;refine And.intro (zDC 59 (.tmp 8) (.tmp 55) rfl b8 0 (by rfl) (.pointer none) (by rfl) zFU rfl rfl (fun wx h=>⟨⟨_,(q wx h).1⟩,h.free (i:=1) rfl 0,St.set h (i:=1) rfl 0 (.pointer none) rfl⟩)) ?_
  refine hK _ ?_;clear hK K)
 (refine Inv.wpInv_step (fun K hK=>?_);go_simp;refine And.intro (zDC 4 (.tmp 9) (.tmp 56) rfl b9 0 (by rfl) (.bool false) (by rfl) zHA rfl rfl (fun wx h=>⟨⟨_,(q wx h).2⟩,h.free (i:=0) rfl 0,St.set h (i:=0) rfl 0 (.bool false) rfl⟩)) ?_
  refine hK _ ?_;clear hK K)
 refine Inv.wpInv_nil ?_;intro wd std;clear q;go_wp2
 try rw[Hres]
 exact rem_out HH.out std rfl (StH.rep std HH.out HT.out) (Int.le_refl _) (by omega) rfl rfl
set_option maxRecDepth 20000 in
theorem rem_leaf(KK:List Int)(k:List Nat)(hk:Key k)(d:Nat)(di:Int)(hb cb:Nat)(bits n c:Int)(w:World)(p:Option Addr)(k2 v:List Nat)(hc:0≤c)(hh:HasH hb cb bits n w)(ht:RepT KK bits w p (.leaf k2 v)) :
  Calls Tryz.prog 151 #[.pointer (some ⟨hb,0,none⟩),.pointer p,.agg (kv k),.int .i64 di] w (RemPost KK bits hb cb n c (.leaf k2 v) (remT k d (.leaf k2 v)) w):=by
 have HH:=Lib.hid hh;have HT:=Lib.hid ht;have Hk:=Lib.hid hk.len;have st:=St.init w;have HKd:=Lib.hid (fun wx (hb:Below w.heap.size w wx)=>zBW KK bits (.leaf k2 v) p wx (HT.out.call hb));have hkk2:Key k2:=by obtain⟨_,_,_,_,_,_,h,_⟩:=ht;exact h
 have HLf:=Lib.hid (fun wx h=>zGF KK bits (.leaf k2 v) p wx h);have hx1:=zJC ht;have hx2:(zFW KK bits (.leaf k2 v)).take 32=k2:=List.take_left' hkk2.len;have hf:=fun wx=>zIB (zFW KK bits (.leaf k2 v)) hx1 wx
 rw[hx2] at hf;have hq:=eqlKey k2 k hkk2.len hk.len;have hgk:=zIP;clear hh ht hk hx1 hx2 hkk2;generalize zFW KK bits (.leaf k2 v)=X at *
 go_enter_defers Tryz.func151,Tryz.ntmps151
 go_wp2_with (first
  |(refine zCO st rfl 59 _ rfl (.pointer p) rfl ?_;intro b5 w1 st1;clear st)
  |(refine zAD st1 rfl 37 _ rfl (kv k) rfl ?_;intro b6 w2 st2;clear st1)
  |((with_reducible refine zAW 59 ?_);refine zCS st2 rfl 59 rfl _ zeroPN ?_;intro b8 w3 st3;clear st2)
  |((with_reducible refine zAW 4 ?_);refine zCS st3 rfl 4 rfl _ zeroBool ?_;intro b9 w4 st4;clear st3;have hc5:=st4.cell (i:=3) rfl 0)
  |(go_at_call 39;refine(HKd.out _ st4.below).mono ?_;rintro e w5 ⟨rfl,rfl⟩))
 have st6:=StH.init HH.out st4;clear st4 hc5;have q:∀wx,StH w cb n [(b9,#[.bool false],4),(b8,#[.pointer none],59),(b6,kv k,37),(b5,#[.pointer p],59)] wx→wx.cell? ⟨b5,0,none⟩=some (.pointer p):=fun wx h=>h.cell (i:=3) rfl 0
 refine Inv.wp_region_inv 6 (StH w cb n [(b9,#[.bool false],4),(b8,#[.pointer none],59),(b6,kv k,37),(b5,#[.pointer p],59)]) zBL (by kernel_rfl) (St.drew st6) ?_;simp only[List.take_succ_cons,List.take_zero,List.drop_succ_cons,List.drop_zero]
 iterate 1
  (refine Inv.wpInv_step (fun K hK=>?_);go_simp;apply zAL;· (intro wx hw;have q1:=q wx hw;go_simp;(try go_ints);(try go_simp);(try (rw[if_pos (by omega)]));(try go_simp);(first | done | rfl))
   refine hK _ ?_;clear hK K)
 (refine Inv.wpInv_step (fun K hK=>?_);go_simp;refine⟨.agg (kv X),zDM 40 #[.pointer p] (fun wx _=>by go_simp) (fun wx hw=>(HLf.out wx (StH.rep hw HH.out HT.out)).mono (fun e w' h=>⟨h.1,St.call hw h.2⟩)),?_⟩
  refine hK _ ?_;clear hK K)
 (refine Inv.wpInv_step (fun K hK=>?_);go_simp;apply zAL;· (intro wx hw;have q1:=hf wx;go_simp;(first | done | rfl))
  refine hK _ ?_;clear hK K)
 (refine Inv.wpInv_step (fun K hK=>?_);go_simp;refine zDP 37 _ rfl b6 rfl _ zBF rfl _ _ (fun wx hw=>hw.at (i:=2) rfl) (zAX Hk.out) ?_
  refine hK _ ?_;clear hK K)
 cases hd:decide (k2=k)
 ·rw[hd] at hq
  have hne:Hid (¬k2=k):=by unfold Hid;simpa using hd
  iterate 1
   (refine Inv.wpInv_step (fun K hK=>?_);go_simp;apply zAL;· (intro wx hw;go_simp;(try go_ints);(try go_simp);(try (rw[if_pos (by omega)]));(try go_simp);(first | done | rfl))
    refine hK _ ?_;clear hK K)
  (refine Inv.wpInv_step (fun K hK=>?_);go_simp;refine And.intro (zDC 59 (.tmp 8) (.const (.pointer none)) rfl b8 0 (by rfl) (.pointer none) (by rfl) zFU rfl rfl (fun wx h=>⟨⟨_,h.cell (i:=1) rfl 0⟩,h.free (i:=1) rfl 0,St.set h (i:=1) rfl 0 (.pointer none) rfl⟩)) ?_
   refine hK _ ?_;clear hK K)
  refine Inv.wpInv_nil ?_;intro w8 st8
  go_wp2_with (first
   |((with_reducible refine zAN 4 ?_);refine zBD st8 rfl 4 _ _ rfl 0 b9 0 rfl (.bool false) rfl _ _ rfl zHA rfl Nat.one_pos rfl _ rfl _ rfl ?_;intro w9 st9 hg9;clear st8 hg9))
  rw[show remT k d (.leaf k2 v)=none from if_neg hne.out];exact rem_out HH.out st9 rfl (StH.rep st9 HH.out HT.out) (Int.le_refl _) (by omega) rfl rfl
 ·rw[hd] at hq
  have hne:Hid (k2=k):=by unfold Hid;simpa using hd
  iterate 1
   (refine Inv.wpInv_step (fun K hK=>?_);go_simp;apply zAL;· (intro wx hw;go_simp;(try go_ints);(try go_simp);(try (rw[if_pos (by omega)]));(try go_simp);(first | done | rfl))
    refine hK _ ?_;clear hK K)
  (refine Inv.wpInv_step (fun K hK=>?_);go_simp;refine And.intro (zDC 59 (.tmp 8) (.const (.pointer none)) rfl b8 0 (by rfl) (.pointer none) (by rfl) zFU rfl rfl (fun wx h=>⟨⟨_,h.cell (i:=1) rfl 0⟩,h.free (i:=1) rfl 0,St.set h (i:=1) rfl 0 (.pointer none) rfl⟩)) ?_
   refine hK _ ?_;clear hK K)
  refine Inv.wpInv_nil ?_;intro w8 st8
  go_wp2_with (first
   |((with_reducible refine zAN 4 ?_);refine zBD st8 rfl 4 _ _ rfl 0 b9 0 rfl (.bool true) rfl _ _ rfl zHA rfl Nat.one_pos rfl _ rfl _ rfl ?_;intro w9 st9 hg9;clear st8 hg9))
  rw[show remT k d (.leaf k2 v)=some .nil from if_pos hne.out];exact rem_out HH.out st9 rfl rfl (Int.le_refl _) (by omega) rfl rfl
set_option maxRecDepth 20000 in
theorem rem_inner(KK:List Int)(k:List Nat)(hk:Key k)(d:Nat)(hd:d<256)(hb cb:Nat)(bits n:Int)(w:World)(p:Option Addr)(l r:Tr)(hB:0≤bits∧bits≤256)(hn:0≤n∧n≤3999999999999980000)(hh:HasH hb cb bits n w)(hK:HasK KK w)(ht:RepT KK bits w p (.inner l r))
  (IHl:zDQ k (d:Nat)=0→∀(p:Option Addr)(wx:World),HasH hb cb bits n wx→HasK KK wx→RepT KK bits wx p l→Calls Tryz.prog 151 #[.pointer (some ⟨hb,0,none⟩),.pointer p,.agg (kv k),.int .i64 ((d:Nat)+1)] wx (RemPost KK bits hb cb n (3*(255 - (d:Nat))) l (remT k (d+1) l) wx))
  (IHr:zDQ k (d:Nat)≠0→∀(p:Option Addr)(wx:World),HasH hb cb bits n wx→HasK KK wx→RepT KK bits wx p r→Calls Tryz.prog 151 #[.pointer (some ⟨hb,0,none⟩),.pointer p,.agg (kv k),.int .i64 ((d:Nat)+1)] wx (RemPost KK bits hb cb n (3*(255 - (d:Nat))) r (remT k (d+1) r) wx)) :
  Calls Tryz.prog 151 #[.pointer (some ⟨hb,0,none⟩),.pointer p,.agg (kv k),.int .i64 (d:Nat)] w (RemPost KK bits hb cb n (3*(256 - (d:Nat))) (.inner l r) (remT k d (.inner l r)) w):=by
 have HH:=Lib.hid hh;have HT:=Lib.hid ht;have Hk:=Lib.hid hk.len;have st:=St.init w;have HKK:=Lib.hid hK;have HKd:=Lib.hid (fun wx (hb:Below w.heap.size w wx)=>zBW KK bits (.inner l r) p wx (HT.out.call hb));have HBit:=Lib.hid (fun wx=>zIC k hk (d:Nat) wx);have HLc:=Lib.hid (fun wx hb=>Left_calls2 KK bits (.inner l r) p w wx ht hb);have HRc:=Lib.hid (fun wx hb=>Right_calls2 KK bits (.inner l r) p w wx ht hb);have HJ:=Lib.hid (fun t b p q m wx h1 h2 h3 h4 h5=>zIV KK t b p q hb cb bits m wx h1 hB h2 h3 h4 h5);have hdi:((d:Nat):Int)<256:=by omega
 clear hh ht hk hK
 go_enter_defers Tryz.func151,Tryz.ntmps151
 go_wp2_with (first
  |(refine zCO st rfl 59 _ rfl (.pointer p) rfl ?_;intro b5 w1 st1;clear st)
  |(refine zAD st1 rfl 37 _ rfl (kv k) rfl ?_;intro b6 w2 st2;clear st1)
  |((with_reducible refine zAW 59 ?_);refine zCS st2 rfl 59 rfl _ zeroPN ?_;intro b8 w3 st3;clear st2)
  |((with_reducible refine zAW 4 ?_);refine zCS st3 rfl 4 rfl _ zeroBool ?_;intro b9 w4 st4;clear st3;have hc5:=st4.cell (i:=3) rfl 0)
  |(go_at_call 39;refine(HKd.out _ st4.below).mono ?_;rintro e w5 ⟨rfl,rfl⟩))
 have st6:St w.heap.size w [(b9,#[.bool false],4),(b8,#[.pointer none],59),(b6,kv k,37),(b5,#[.pointer p],59)] w5:=st4;clear st4 hc5;have q:∀wx,St w.heap.size w [(b9,#[.bool false],4),(b8,#[.pointer none],59),(b6,kv k,37),(b5,#[.pointer p],59)] wx→wx.cell? ⟨b5,0,none⟩=some (.pointer p):=fun wx h=>h.cell (i:=3) rfl 0
 refine Mix.wp_region_mix 4 (St w.heap.size w [(b9,#[.bool false],4),(b8,#[.pointer none],59),(b6,kv k,37),(b5,#[.pointer p],59)]) zBL (by kernel_rfl) (St.drew st6) ?_;intro F inv;refine Mix.good_batch (f:=2) F St.up [0,2] _ _ inv (by kernel_rfl) ?_;clear inv st6
 iterate 2
  (refine Mix.wpUp_cons rfl (fun K hK=>?_);go_simp;apply zAU;· (intro wx hw;have q1:=q wx hw;go_simp;(try go_ints);(try go_simp);(try (rw[if_pos (by omega)]));(try go_simp);(first | done | rfl))
   refine hK _ ?_;clear hK K)
 refine Mix.wpUp_nil ?_;intro inv;refine Mix.good_one (i:=1) (f:=1) (by kernel_rfl) inv (fun w7 st7=>?_);clear inv q;refine zAT rfl rfl 123 #[.pointer p] (by go_simp) ?_;refine(HLc.out _ st7.below).mono ?_;rintro e w8 ⟨pl,rfl,hrl,hb8⟩;refine⟨_,rfl,St w.heap.size w [(b9,#[.bool false],4),(b8,#[.pointer none],59),(b6,kv k,37),(b5,#[.pointer p],59)],St.up,st7.call hb8,fun _ h=>h,fun inv=>?_⟩;have HRl:=Lib.hid hrl;clear st7 hb8 hrl;refine Mix.good_one (i:=3) (f:=0) (by kernel_rfl) inv (fun w9 st9=>?_);clear inv;refine zAT rfl rfl 124 #[.pointer p] (by go_simp) ?_;refine(HRc.out _ st9.below).mono ?_;rintro e w10 ⟨pr,rfl,hrr,hb10⟩;refine⟨_,rfl,St w.heap.size w [(b9,#[.bool false],4),(b8,#[.pointer none],59),(b6,kv k,37),(b5,#[.pointer p],59)],St.up,st9.call hb10,fun _ h=>h,fun inv=>?_⟩;have HRr:=Lib.hid hrr;clear st9 hb10 hrr inv F;refine⟨by kernel_rfl,fun w7 st7=>?_⟩;simp only[List.drop_succ_cons,List.drop_zero,Act.put,List.getElem_toArray,List.getElem_cons_succ,List.getElem_cons_zero,List.setIfInBounds_toArray,List.set_cons_succ,List.set_cons_zero]
 by_cases hbt:zDQ k (d:Nat)=0
 ·rw[hbt] at HBit
  have IHl:=IHl hbt
  cases hres:remT k (d+1) l with
  |none =>
   have HI:=Lib.hid (IHl pl);rw[hres] at HI
   go_wp2_with (first
    |(go_at_call 79;refine(HBit.out _).mono ?_;rintro e w8 ⟨rfl,hb8⟩;have st8:=StH.init HH.out (St.call st7 hb8);clear st7 hb8)
    |((with_reducible refine zBA 37 ?_);first | (refine zAC rfl 37 _ rfl b6 rfl _ zBF rfl _ _ (st7.at (i:=2) rfl) (zAX Hk.out) ?_) | (refine zAC rfl 37 _ rfl b6 rfl _ zBF rfl _ _ (st8.at (i:=2) rfl) (zAX Hk.out) ?_))
    |(go_at_call 151;refine(HI.out _ (StH.has st8 HH.out) (StH.hasK st8 HH.out HKK.out) (StH.rep st8 HH.out HRl.out)).mono ?_;rintro e w9 ⟨p9,n9,rfl,hr9,hg9,hh9,ha9,hb9'⟩;have st9:=StH.sum st8 HH.out hg9 hh9;have HR9:=Lib.hid hr9;clear st8 hg9 hh9 hr9)
    |((with_reducible refine zAN 4 ?_);refine zBD st9 rfl 4 _ _ rfl 0 b9 0 rfl (.bool false) rfl _ _ rfl zHA rfl Nat.one_pos rfl _ rfl _ rfl ?_;intro w10 st10 hg10;have HR10:=Lib.hid (HR9.out.box (st9.at (i:=0) rfl) (by decide) (fun i x=>by rcases i with _ | i<;>simp) hg10);clear st9 hg10 HR9;have hc9:=st10.cell (i:=0) rfl 0))
   have Hres:remT k d (.inner l r)=none:=by unfold remT;rw[hbt];rw[if_pos rfl];rw[hres];rfl
   have q:∀wx,StH w cb n9 [(b9,#[.bool false],4),(b8,#[.pointer none],59),(b6,kv k,37),(b5,#[.pointer p],59)] wx→wx.cell? ⟨b8,0,none⟩=some (.pointer none)∧wx.cell? ⟨b9,0,none⟩=some (.bool false):=fun wx h=>⟨h.cell (i:=1) rfl 0,h.cell (i:=0) rfl 0⟩
   refine Inv.wp_region_inv 4 (StH w cb n9 [(b9,#[.bool false],4),(b8,#[.pointer none],59),(b6,kv k,37),(b5,#[.pointer p],59)]) zBL (by kernel_rfl) (St.drew st10) ?_;simp only[List.take_succ_cons,List.take_zero,List.drop_succ_cons,List.drop_zero]
   iterate 2
    (refine Inv.wpInv_step (fun K hK=>?_);go_simp;apply zAL;· (intro wx hw;have q1:=q wx hw;go_simp;(try go_ints);(try go_simp);(try (rw[if_pos (by omega)]));(try go_simp);(first | done | rfl))
     refine hK _ ?_;clear hK K)
   (refine Inv.wpInv_step (fun K hK=>?_);go_simp;refine And.intro (zDC 59 (.tmp 8) (.tmp 55) rfl b8 0 (by rfl) (.pointer none) (by rfl) zFU rfl rfl (fun wx h=>⟨⟨_,(q wx h).1⟩,h.free (i:=1) rfl 0,St.set h (i:=1) rfl 0 (.pointer none) rfl⟩)) ?_
    refine hK _ ?_;clear hK K)
   (refine Inv.wpInv_step (fun K hK=>?_);go_simp;refine And.intro (zDC 4 (.tmp 9) (.tmp 56) rfl b9 0 (by rfl) (.bool false) (by rfl) zHA rfl rfl (fun wx h=>⟨⟨_,(q wx h).2⟩,h.free (i:=0) rfl 0,St.set h (i:=0) rfl 0 (.bool false) rfl⟩)) ?_
    refine hK _ ?_;clear hK K)
   refine Inv.wpInv_nil ?_;intro wd std;clear q;go_wp2
   try rw[Hres]
   exact rem_out HH.out std rfl (StH.rep std HH.out HT.out) (by omega) (by omega) rfl rfl
  |some x =>
   have HI:=Lib.hid (IHl pl);rw[hres] at HI
   go_wp2_with (first
    |(go_at_call 79;refine(HBit.out _).mono ?_;rintro e w8 ⟨rfl,hb8⟩;have st8:=StH.init HH.out (St.call st7 hb8);clear st7 hb8)
    |((with_reducible refine zBA 37 ?_);first | (refine zAC rfl 37 _ rfl b6 rfl _ zBF rfl _ _ (st7.at (i:=2) rfl) (zAX Hk.out) ?_) | (refine zAC rfl 37 _ rfl b6 rfl _ zBF rfl _ _ (st8.at (i:=2) rfl) (zAX Hk.out) ?_))
    |(go_at_call 151;refine(HI.out _ (StH.has st8 HH.out) (StH.hasK st8 HH.out HKK.out) (StH.rep st8 HH.out HRl.out)).mono ?_;rintro e w9 ⟨p9,n9,rfl,hr9,hg9,hh9,ha9,hb9'⟩;have st9:=StH.sum st8 HH.out hg9 hh9;have HR9:=Lib.hid hr9;clear st8 hg9 hh9 hr9)
    |((with_reducible refine zAN 4 ?_);refine zBD st9 rfl 4 _ _ rfl 0 b9 0 rfl (.bool true) rfl _ _ rfl zHA rfl Nat.one_pos rfl _ rfl _ rfl ?_;intro w10 st10 hg10;have HR10:=Lib.hid (HR9.out.box (st9.at (i:=0) rfl) (by decide) (fun i x=>by rcases i with _ | i<;>simp) hg10);clear st9 hg10 HR9;have hc9:=st10.cell (i:=0) rfl 0)
    |(go_at_call 168;refine(HJ.out (x) (r) p9 pr n9 _ (StH.has st10 HH.out) (by omega) (StH.hasK st10 HH.out HKK.out) HR10.out (StH.rep st10 HH.out HRr.out)).mono ?_;rintro e w11 ⟨p11,n11,rfl,hr11,hg11,hh11,ha11,hb11⟩;have st11:=StH.sum st10 HH.out hg11 hh11;have HR11:=Lib.hid hr11;clear st10 hg11 hh11 hr11 HR10)
    |((with_reducible refine zAN 59 ?_);refine zBD st11 rfl 59 _ _ rfl 1 b8 0 rfl (.pointer p11) rfl _ _ rfl zFU rfl Nat.one_pos rfl _ rfl _ rfl ?_;intro w12 st12 hg12;have HR12:=Lib.hid (HR11.out.box (st11.at (i:=1) rfl) (by decide) (fun i x=>by rcases i with _ | i<;>simp) hg12);clear st11 hg12 HR11))
   obtain⟨wr,rfl⟩:∃wr,wr=w12:=⟨_,rfl⟩
   have Hres:remT k d (.inner l r)=some (joinT x r):=by unfold remT;rw[hbt];rw[if_pos rfl];rw[hres];rfl
   have q:∀wx,(StH w cb n11 [(b9,#[.bool true],4),(b8,#[.pointer p11],59),(b6,kv k,37),(b5,#[.pointer p],59)] wx∧RepT KK bits wx p11 (joinT x r))→wx.cell? ⟨b8,0,none⟩=some (.pointer p11)∧wx.cell? ⟨b9,0,none⟩=some (.bool true):=fun wx h=>⟨h.1.cell (i:=1) rfl 0,h.1.cell (i:=0) rfl 0⟩
   refine Inv.wp_region_inv 4 (fun wx=>StH w cb n11 [(b9,#[.bool true],4),(b8,#[.pointer p11],59),(b6,kv k,37),(b5,#[.pointer p],59)] wx∧RepT KK bits wx p11 (joinT x r)) zBL (by kernel_rfl) ⟨St.drew st12,HR12.out.call (Below.refl _ _).drew⟩ ?_;simp only[List.take_succ_cons,List.take_zero,List.drop_succ_cons,List.drop_zero]
   iterate 2
    (refine Inv.wpInv_step (fun K hK=>?_);go_simp;apply zAL;· (intro wx hw;have q1:=q wx hw;go_simp;(try go_ints);(try go_simp);(try (rw[if_pos (by omega)]));(try go_simp);(first | done | rfl))
     refine hK _ ?_;clear hK K)
   (refine Inv.wpInv_step (fun K hK=>?_);go_simp;refine And.intro (zDC 59 (.tmp 8) (.tmp 55) rfl b8 0 (by rfl) (.pointer p11) (by rfl) zFU rfl rfl (fun wx h=>⟨⟨_,(q wx h).1⟩,h.1.free (i:=1) rfl 0,St.set h.1 (i:=1) rfl 0 (.pointer p11) rfl,h.2.box (h.1.at (i:=1) rfl) (by decide) (fun i x=>by rcases i with _ | i<;>simp) (Go.Lib.grownBy_setCell _ b8 0 _)⟩)) ?_
    refine hK _ ?_;clear hK K)
   (refine Inv.wpInv_step (fun K hK=>?_);go_simp;refine And.intro (zDC 4 (.tmp 9) (.tmp 56) rfl b9 0 (by rfl) (.bool true) (by rfl) zHA rfl rfl (fun wx h=>⟨⟨_,(q wx h).2⟩,h.1.free (i:=0) rfl 0,St.set h.1 (i:=0) rfl 0 (.bool true) rfl,h.2.box (h.1.at (i:=0) rfl) (by decide) (fun i x=>by rcases i with _ | i<;>simp) (Go.Lib.grownBy_setCell _ b9 0 _)⟩)) ?_
    refine hK _ ?_;clear hK K)
   refine Inv.wpInv_nil ?_;rintro wd ⟨std,hrd⟩;clear q;go_wp2;rw[Hres];exact rem_out HH.out std rfl hrd (by omega) (by omega) rfl rfl
 ·have hbt:zDQ k (d:Nat)=1:=by
   rw[zJH hd] at hbt ⊢
   have:=zCQ k d;omega
  rw[hbt] at HBit;have IHr:=IHr (by rw[hbt];decide)
  cases hres:remT k (d+1) r with
  |none =>
   have HI:=Lib.hid (IHr pr);rw[hres] at HI
   go_wp2_with (first
    |(go_at_call 79;refine(HBit.out _).mono ?_;rintro e w8 ⟨rfl,hb8⟩;have st8:=StH.init HH.out (St.call st7 hb8);clear st7 hb8)
    |((with_reducible refine zBA 37 ?_);first | (refine zAC rfl 37 _ rfl b6 rfl _ zBF rfl _ _ (st7.at (i:=2) rfl) (zAX Hk.out) ?_) | (refine zAC rfl 37 _ rfl b6 rfl _ zBF rfl _ _ (st8.at (i:=2) rfl) (zAX Hk.out) ?_))
    |(go_at_call 151;refine(HI.out _ (StH.has st8 HH.out) (StH.hasK st8 HH.out HKK.out) (StH.rep st8 HH.out HRr.out)).mono ?_;rintro e w9 ⟨p9,n9,rfl,hr9,hg9,hh9,ha9,hb9'⟩;have st9:=StH.sum st8 HH.out hg9 hh9;have HR9:=Lib.hid hr9;clear st8 hg9 hh9 hr9)
    |((with_reducible refine zAN 4 ?_);refine zBD st9 rfl 4 _ _ rfl 0 b9 0 rfl (.bool false) rfl _ _ rfl zHA rfl Nat.one_pos rfl _ rfl _ rfl ?_;intro w10 st10 hg10;have HR10:=Lib.hid (HR9.out.box (st9.at (i:=0) rfl) (by decide) (fun i x=>by rcases i with _ | i<;>simp) hg10);clear st9 hg10 HR9;have hc9:=st10.cell (i:=0) rfl 0))
   have Hres:remT k d (.inner l r)=none:=by unfold remT;rw[hbt];rw[if_neg (by decide)];rw[hres];rfl
   have q:∀wx,StH w cb n9 [(b9,#[.bool false],4),(b8,#[.pointer none],59),(b6,kv k,37),(b5,#[.pointer p],59)] wx→wx.cell? ⟨b8,0,none⟩=some (.pointer none)∧wx.cell? ⟨b9,0,none⟩=some (.bool false):=fun wx h=>⟨h.cell (i:=1) rfl 0,h.cell (i:=0) rfl 0⟩
   refine Inv.wp_region_inv 4 (StH w cb n9 [(b9,#[.bool false],4),(b8,#[.pointer none],59),(b6,kv k,37),(b5,#[.pointer p],59)]) zBL (by kernel_rfl) (St.drew st10) ?_;simp only[List.take_succ_cons,List.take_zero,List.drop_succ_cons,List.drop_zero]
   iterate 2
    (refine Inv.wpInv_step (fun K hK=>?_);go_simp;apply zAL;· (intro wx hw;have q1:=q wx hw;go_simp;(try go_ints);(try go_simp);(try (rw[if_pos (by omega)]));(try go_simp);(first | done | rfl))
     refine hK _ ?_;clear hK K)
   (refine Inv.wpInv_step (fun K hK=>?_);go_simp;refine And.intro (zDC 59 (.tmp 8) (.tmp 55) rfl b8 0 (by rfl) (.pointer none) (by rfl) zFU rfl rfl (fun wx h=>⟨⟨_,(q wx h).1⟩,h.free (i:=1) rfl 0,St.set h (i:=1) rfl 0 (.pointer none) rfl⟩)) ?_
    refine hK _ ?_;clear hK K)
   (refine Inv.wpInv_step (fun K hK=>?_);go_simp;refine And.intro (zDC 4 (.tmp 9) (.tmp 56) rfl b9 0 (by rfl) (.bool false) (by rfl) zHA rfl rfl (fun wx h=>⟨⟨_,(q wx h).2⟩,h.free (i:=0) rfl 0,St.set h (i:=0) rfl 0 (.bool false) rfl⟩)) ?_
    refine hK _ ?_;clear hK K)
   refine Inv.wpInv_nil ?_;intro wd std;clear q;go_wp2
   try rw[Hres]
   exact rem_out HH.out std rfl (StH.rep std HH.out HT.out) (by omega) (by omega) rfl rfl
  |some x =>
   have HI:=Lib.hid (IHr pr);rw[hres] at HI
   go_wp2_with (first
    |(go_at_call 79;refine(HBit.out _).mono ?_;rintro e w8 ⟨rfl,hb8⟩;have st8:=StH.init HH.out (St.call st7 hb8);clear st7 hb8)
    |((with_reducible refine zBA 37 ?_);first | (refine zAC rfl 37 _ rfl b6 rfl _ zBF rfl _ _ (st7.at (i:=2) rfl) (zAX Hk.out) ?_) | (refine zAC rfl 37 _ rfl b6 rfl _ zBF rfl _ _ (st8.at (i:=2) rfl) (zAX Hk.out) ?_))
    |(go_at_call 151;refine(HI.out _ (StH.has st8 HH.out) (StH.hasK st8 HH.out HKK.out) (StH.rep st8 HH.out HRr.out)).mono ?_;rintro e w9 ⟨p9,n9,rfl,hr9,hg9,hh9,ha9,hb9'⟩;have st9:=StH.sum st8 HH.out hg9 hh9;have HR9:=Lib.hid hr9;clear st8 hg9 hh9 hr9)
    |((with_reducible refine zAN 4 ?_);refine zBD st9 rfl 4 _ _ rfl 0 b9 0 rfl (.bool true) rfl _ _ rfl zHA rfl Nat.one_pos rfl _ rfl _ rfl ?_;intro w10 st10 hg10;have HR10:=Lib.hid (HR9.out.box (st9.at (i:=0) rfl) (by decide) (fun i x=>by rcases i with _ | i<;>simp) hg10);clear st9 hg10 HR9;have hc9:=st10.cell (i:=0) rfl 0)
    |(go_at_call 168;refine(HJ.out (l) (x) pl p9 n9 _ (StH.has st10 HH.out) (by omega) (StH.hasK st10 HH.out HKK.out) (StH.rep st10 HH.out HRl.out) HR10.out).mono ?_;rintro e w11 ⟨p11,n11,rfl,hr11,hg11,hh11,ha11,hb11⟩;have st11:=StH.sum st10 HH.out hg11 hh11;have HR11:=Lib.hid hr11;clear st10 hg11 hh11 hr11 HR10)
    |((with_reducible refine zAN 59 ?_);refine zBD st11 rfl 59 _ _ rfl 1 b8 0 rfl (.pointer p11) rfl _ _ rfl zFU rfl Nat.one_pos rfl _ rfl _ rfl ?_;intro w12 st12 hg12;have HR12:=Lib.hid (HR11.out.box (st11.at (i:=1) rfl) (by decide) (fun i x=>by rcases i with _ | i<;>simp) hg12);clear st11 hg12 HR11))
   obtain⟨wr,rfl⟩:∃wr,wr=w12:=⟨_,rfl⟩
   have Hres:remT k d (.inner l r)=some (joinT l x):=by unfold remT;rw[hbt];rw[if_neg (by decide)];rw[hres];rfl
   have q:∀wx,(StH w cb n11 [(b9,#[.bool true],4),(b8,#[.pointer p11],59),(b6,kv k,37),(b5,#[.pointer p],59)] wx∧RepT KK bits wx p11 (joinT l x))→wx.cell? ⟨b8,0,none⟩=some (.pointer p11)∧wx.cell? ⟨b9,0,none⟩=some (.bool true):=fun wx h=>⟨h.1.cell (i:=1) rfl 0,h.1.cell (i:=0) rfl 0⟩
   refine Inv.wp_region_inv 4 (fun wx=>StH w cb n11 [(b9,#[.bool true],4),(b8,#[.pointer p11],59),(b6,kv k,37),(b5,#[.pointer p],59)] wx∧RepT KK bits wx p11 (joinT l x)) zBL (by kernel_rfl) ⟨St.drew st12,HR12.out.call (Below.refl _ _).drew⟩ ?_;simp only[List.take_succ_cons,List.take_zero,List.drop_succ_cons,List.drop_zero]
   iterate 2
    (refine Inv.wpInv_step (fun K hK=>?_);go_simp;apply zAL;· (intro wx hw;have q1:=q wx hw;go_simp;(try go_ints);(try go_simp);(try (rw[if_pos (by omega)]));(try go_simp);(first | done | rfl))
     refine hK _ ?_;clear hK K)
   (refine Inv.wpInv_step (fun K hK=>?_);go_simp;refine And.intro (zDC 59 (.tmp 8) (.tmp 55) rfl b8 0 (by rfl) (.pointer p11) (by rfl) zFU rfl rfl (fun wx h=>⟨⟨_,(q wx h).1⟩,h.1.free (i:=1) rfl 0,St.set h.1 (i:=1) rfl 0 (.pointer p11) rfl,h.2.box (h.1.at (i:=1) rfl) (by decide) (fun i x=>by rcases i with _ | i<;>simp) (Go.Lib.grownBy_setCell _ b8 0 _)⟩)) ?_
    refine hK _ ?_;clear hK K)
   (refine Inv.wpInv_step (fun K hK=>?_);go_simp;refine And.intro (zDC 4 (.tmp 9) (.tmp 56) rfl b9 0 (by rfl) (.bool true) (by rfl) zHA rfl rfl (fun wx h=>⟨⟨_,(q wx h).2⟩,h.1.free (i:=0) rfl 0,St.set h.1 (i:=0) rfl 0 (.bool true) rfl,h.2.box (h.1.at (i:=0) rfl) (by decide) (fun i x=>by rcases i with _ | i<;>simp) (Go.Lib.grownBy_setCell _ b9 0 _)⟩)) ?_
    refine hK _ ?_;clear hK K)
   refine Inv.wpInv_nil ?_;rintro wd ⟨std,hrd⟩;clear q;go_wp2;rw[Hres];exact rem_out HH.out std rfl hrd (by omega) (by omega) rfl rfl
set_option maxRecDepth 20000 in
theorem RemAt_calls(KK:List Int)(k:List Nat)(hk:Key k)(hb cb:Nat)(bits n:Int)(hB:0≤bits∧bits≤256)(hn:0≤n∧n≤3999999999999980000):∀(t:Tr)(d:Nat) (p:Option Addr) (w:World),d≤256→wayOK k d t→HasH hb cb bits n w→HasK KK w→RepT KK bits w p t →
  Calls Tryz.prog 151 #[.pointer (some ⟨hb,0,none⟩),.pointer p,.agg (kv k),.int .i64 (d:Nat)] w (RemPost KK bits hb cb n (3*(256 - (d:Nat))) t (remT k d t) w)
 |.nil,d,p,w,hd,_,hh,_,ht=>rem_nil KK k hk (d:Nat) hb cb bits n _ w p (by omega) hh ht
 |.leaf k2 v,d,p,w,hd,_,hh,_,ht=>rem_leaf KK k hk d (d:Nat) hb cb bits n _ w p k2 v (by omega) hh ht
 |.inner l r,d,p,w,hd,hw,hh,hK,ht=>by
  refine rem_inner KK k hk d hw.1 hb cb bits n w p l r hB hn hh hK ht (fun h p wx h1 h2 h3=>?_) (fun h p wx h1 h2 h3=>?_)
  ·have h4:=hw.2
   rw[if_pos h] at h4
   have:=RemAt_calls KK k hk hb cb bits n hB hn l (d+1) p wx (by have:=hw.1;omega) h4 h1 h2 h3
   rwa [show ((d+1:Nat):Int)=(d:Nat)+1 by omega,show (256 - ((d:Nat)+1:Int))=255 - (d:Nat) by omega] at this
  ·have h4:=hw.2
   rw[if_neg h] at h4
   have:=RemAt_calls KK k hk hb cb bits n hB hn r (d+1) p wx (by have:=hw.1;omega) h4 h1 h2 h3
   rwa [show ((d+1:Nat):Int)=(d:Nat)+1 by omega,show (256 - ((d:Nat)+1:Int))=255 - (d:Nat) by omega] at this
set_option maxRecDepth 20000 in
theorem Remove_calls(KK:List Int)(k:List Nat)(hk:Key k)(hb cb:Nat)(bits n:Int)(hB:0≤bits∧bits≤256)(hn:0≤n∧n≤3999999999999980000)(t:Tr)(p:Option Addr)(w:World)(hw:wayOK k 0 t)(hh:HasH hb cb bits n w)(hK:HasK KK w)(ht:RepT KK bits w p t) :
  Calls Tryz.prog 118 #[.pointer (some ⟨hb,0,none⟩),.pointer p,.agg (kv k)] w (RemPost KK bits hb cb n 1000 t (remT k 0 t) w):=by
 have HH:=Lib.hid hh;have HKK:=Lib.hid hK;have HT:=Lib.hid ht;have Hk:=Lib.hid hk.len;have HA:=Lib.hid (fun wx h1 h2 h3=>RemAt_calls KK k hk hb cb bits n hB hn t 0 p wx (by omega) hw h1 h2 h3);have HE:Hid (∀(w1 w':World)(p1:Option Addr) (n1:Int),w.grownBy w1 (some cb)→RepT KK bits w' p1 ((remT k 0 t).getD t)→w1.grownBy w' (some cb)→HasH hb cb bits n1 w'→n≤n1→n1≤n+3*(256 - (0:Nat))→RemPost KK bits hb cb n 1000 t (remT k 0 t) w (.returned (.tuple #[.pointer p1,.bool (remT k 0 t).isSome])) w'):=fun w1 w' p1 n1 h1 h2 h3 h4 h5 h6=>⟨p1,n1,rfl,h2,h1.trans h3,h4,h5,by omega⟩
 clear hh hK ht hk;have st:=St.init w;generalize RemPost KK bits hb cb n 1000 t (remT k 0 t) w=R at *;generalize remT k 0 t=res at *;go_enter Tryz.func118,Tryz.ntmps118
 go_wp2_with (first
  |(refine zAD st rfl 37 _ rfl (kv k) rfl ?_;intro b5 w2 st2;clear st;have st6:=StH.init HH.out st2)
  |((with_reducible refine zBA 37 ?_);refine zAC rfl 37 _ rfl b5 rfl _ zBF rfl _ _ (st2.at (i:=0) rfl) (zAX Hk.out) ?_)
  |(go_at_call 151;refine(HA.out _ (StH.has st6 HH.out) (StH.hasK st6 HH.out HKK.out) (StH.rep st6 HH.out HT.out)).mono ?_;rintro e w7 ⟨p7,n7,rfl,hr7,hg7,hh7,ha7,hb7⟩;have h8:=HE.out _ _ _ _ (StH.grown st6) hr7 hg7 hh7 ha7 hb7;clear hr7))
 exact h8
end
section
set_option maxHeartbeats 2000000
open Go Go.RowKit
attribute [local irreducible] Inv.wpInv Mix.wpUp
theorem leafCells_key(k vd:List Nat)(s:Value)(hk:k.length=32)(hv:vd.length=32):(zBI k vd s).extract 0 (0+32)=kv k:=by
 unfold zBI;have h:(#[s]:Array Value).extract (0 - 64) (0+32 - 64)=#[]:=by simp
 rw[Array.extract_append,zAF,List.length_append,hk,hv,h,Array.append_empty,zDY _ 0 32 (by rw[List.length_append];omega),List.drop_zero,List.take_left' hk]
theorem leafCells_val(k vd:List Nat)(s:Value)(hk:k.length=32)(hv:vd.length=32):(zBI k vd s)[64]?=some s:=by
 unfold zBI;rw[Array.getElem?_append_right (by rw[zAF,List.length_append];omega),zAF,List.length_append,hk,hv];rfl
set_option maxRecDepth 20000 in
theorem CloneOwn_calls(l:List Nat)(v:Value)(w:World)(hl:l.length≤1099511627776)(hv:RdB w v l) :
  Calls Tryz.prog 171 #[v] w fun e w'=>∃v',e=.returned v'∧w'.ownsRow w.heap.size 5 1 v' l.length (zAJ l)∧Below w.heap.size w w':=by
 have HV:=Lib.hid hv;obtain⟨a,cap,rfl,_⟩:=hv.open;clear hv;have st:=St.init w
 cases a with
 |none =>
  have h0:l=[]:=by
   rcases HV.out.2 with ⟨h,_⟩ | ⟨b,off,c,h,_⟩
   ·exact h
   ·cases h
  have hq:=eqSlN 0 cap w;subst h0;go_enter Tryz.func171,Tryz.ntmps171;go_wp2;go_ret;exact⟨_,rfl,World.ownsRow_nil _ _ _ _,Below.refl _ _⟩
 |some ad =>
  have hq:=eqSlS ad l.length cap w;go_enter Tryz.func171,Tryz.ntmps171
  go_wp2_with (first
   |(refine zFM st rfl 22 rfl 5 zCC 1 zCN ?_;intro v1 w1 st1 hown1;clear st)
   |(at_builtin;refine zCE (base:=w.heap.size) st1 (by simp) (Nat.le_refl _) rfl _ _ 22 rfl 5 (.int .u8 0) 1 zCC zDU zCN zFD rfl _ _ _ rfl hown1 _ l rfl (HV.out.call st1.below) (by unfold maxLen;omega) (by omega) st1.size ?_;intro v3 w3 st3 hown3 hb3 _;clear st1))
  go_ret;exact⟨_,rfl,by simpa using hown3,st3.below⟩
theorem fieldEntryV(k:List Nat)(s:Value)(hk:k.length=32)(w:World):(Instr.field 52 (.agg (zAV k s)) 1).run Tryz.prog w=.ok s w:=by
 have e:∀(ec:Array Value)(x:Value),ec[32]?=some x→(Instr.field 52 (.agg ec) 1).run Tryz.prog w=.ok x w:=fun ec x h=>by
  have e0:(Instr.field 52 (.agg ec) 1).run Tryz.prog w=(match ec[32]? with | some v=>pure v | none=>Go.stuck "part: no such cell" : Sem Value).run Tryz.prog w:=by kernel_rfl
  rw[e0,h];rfl
 refine e _ _ ?_;unfold zAV;rw[Array.getElem?_append_right (by rw[zAF];omega),zAF,hk];rfl
set_option maxRecDepth 20000 in
theorem Entry_calls(KK:List Int)(bits:Int)(k v:List Nat)(p:Option Addr)(w:World)(ht:RepT KK bits w p (.leaf k v)) :
  Calls Tryz.prog 150 #[.pointer p] w fun e w'=>∃a c,e=.returned (.agg (zAV k (.slice a v.length c)))∧RdB w' (.slice a v.length c) v∧Below w.heap.size w w':=by
 obtain⟨nb,a,c,rfl,hrow,hrd,hk,hby,hl⟩:=ht;have HV:=Lib.hid hrd;have hd:=(zBG KK bits (2::v)).len;have H4:Hid ((zBI k (zBE KK bits (2::v)) (.slice a v.length c)).size=65):=by unfold Hid zBI;rw[Array.size_append,zAF,List.length_append,hk.len,hd];rfl
 have H1:=Lib.hid (zIN k (zBE KK bits (2::v)) (.slice a v.length c) rfl);have HKy:=Lib.hid (leafCells_key k (zBE KK bits (2::v)) (.slice a v.length c) hk.len hd);have HVl:=Lib.hid (leafCells_val k (zBE KK bits (2::v)) (.slice a v.length c) hk.len hd);have HLf:=Lib.hid (fun wx (hb:Below w.heap.size w wx)=>leafLeaf_calls (zBI k (zBE KK bits (2::v)) (.slice a v.length c)) H4 H1 nb wx (row_cell0 ((hb.block nb (zAG hrow)).trans hrow)));have HCl:=Lib.hid (fun wx h=>CloneOwn_calls v (.slice a v.length c) wx (by omega) h);have HBe:=Lib.hid (fun a2 n2 c2=>zIT k a2 n2 c2 hk.len);have HSe:=Lib.hid (fun s=>zBM k s hk.len);obtain⟨ze,hze,hz0⟩:=zEA;have hz1:=zIJ;have Hz2:Hid ((zBI (List.replicate 32 0) (List.replicate 32 0) (.slice none 0 0)).size=65):=by unfold Hid zBI;rw[Array.size_append,zAF];rfl
 clear hrow hrd hk hby hl hd;generalize zBI k (zBE KK bits (2::v)) (.slice a v.length c)=lc at *;generalize zBI (List.replicate 32 0) (List.replicate 32 0) (.slice none 0 0)=zc at *;have st:=St.init w;go_enter Tryz.func150,Tryz.ntmps150
 go_wp2_with (first
  |((with_reducible refine zAW 52 ?_);refine zAE st rfl 52 rfl _ hz0 ?_;intro b2 w1 st1;clear st)
  |(go_at_call 77;refine(HLf.out _ st1.below).mono ?_;rintro e w2 ⟨rfl,hbel⟩;have st2:=st1.call hbel;clear st1 hbel)
  |((with_reducible refine zAW 184 ?_);refine zAE st2 rfl 184 rfl _ hz1 ?_;intro b3 w3 st3;clear st2)
  |((with_reducible refine zAN 184 ?_);refine zAA st3 rfl 184 _ _ rfl 0 b3 rfl (.agg lc) rfl _ _ rfl (by show _=some lc.size;rw[H4.out];exact zFC) (by show lc.size=zc.size;rw[H4.out,Hz2.out]) H1.out _ rfl ?_;intro w4 st4;clear st3))
 have st5:St w.heap.size w [(b3,lc,184),(b2,ze,52)] w4:=st4;clear st4;have q:∀wx,St w.heap.size w [(b3,lc,184),(b2,ze,52)] wx→wx.cell? ⟨b3,64,none⟩=some (.slice a v.length c):=fun wx h=>(h.cell (i:=0) rfl 64).trans HVl.out
 refine Mix.wp_region_mix 6 (St w.heap.size w [(b3,lc,184),(b2,ze,52)]) zBL (by kernel_rfl) st5.drew ?_;intro F inv;refine Mix.good_batch (f:=1) F St.up [0,1,2,3,4] _ _ inv (by kernel_rfl) ?_;clear inv st5
 iterate 2
  (refine Mix.wpUp_cons rfl (fun K hK=>?_);go_simp;apply zAU;· (intro wx hw;go_simp;(try go_ints);(try go_simp);(try (rw[if_pos (by omega)]));(try go_simp);(first | done | rfl))
   refine hK _ ?_;clear hK K)
 (refine Mix.wpUp_cons rfl (fun K hK=>?_);go_simp;refine zHS 37 _ rfl b3 0 32 rfl zBN _ _ (fun wx hw=>hw.at (i:=0) rfl) zBC (by rw[H4.out];decide) _ HKy.out ?_
  refine hK _ ?_;clear hK K)
 iterate 1
  (refine Mix.wpUp_cons rfl (fun K hK=>?_);go_simp;apply zAU;· (intro wx hw;go_simp;(try go_ints);(try go_simp);(try (rw[if_pos (by omega)]));(try go_simp);(first | done | rfl))
   refine hK _ ?_;clear hK K)
 iterate 1
  (refine Mix.wpUp_cons rfl (fun K hK=>?_);go_simp;apply zAU;· (intro wx hw;have q1:=q wx hw;go_simp;(try go_ints);(try go_simp);(try (rw[if_pos (by omega)]));(try go_simp);(first | done | rfl))
   refine hK _ ?_;clear hK K)
 refine Mix.wpUp_nil ?_;intro inv;refine Mix.good_one (i:=5) (f:=0) (by kernel_rfl) inv (fun w6 st6=>?_);clear inv q;refine zAT rfl rfl 171 #[.slice a v.length c] (by go_simp) ?_;refine(HCl.out _ (HV.out.call st6.below)).mono ?_;rintro e w7 ⟨v7,rfl,hown7,hb7⟩;obtain⟨a7,c7,rfl⟩:=zDN hown7;obtain⟨B,hB⟩:∃B,B=w6.heap.size:=⟨_,rfl⟩
 have hb2:b2<B:=by rw[hB];exact zAG (st6.at (i:=1) rfl)
 rw[←hB] at hown7;refine⟨_,rfl,fun wx=>St w.heap.size w [(b3,lc,184),(b2,ze,52)] wx∧wx.ownsRow B 5 1 (.slice a7 v.length c7) v.length (zAJ v),fun _ _ h hb=>⟨h.1.call hb,zAY h.2 hb⟩,⟨st6.call hb7,hown7⟩,fun _ h=>h.1,fun inv=>?_⟩;clear st6 hown7 hb7 inv F hB;refine⟨by kernel_rfl,fun w8 ⟨st8,hown8⟩=>?_⟩;have Hown:=Lib.hid hown8;clear hown8;have HE2:=Lib.hid (zCM k a7 v.length c7);have HB2:=Lib.hid (HBe.out a7 v.length c7);have HS2:=Lib.hid (HSe.out (.slice a7 v.length c7));have HF:Hid (∀wx,w8.grownBy wx (some b2)→RdB wx (.slice a7 v.length c7) v):=fun wx hg=>RdB.own (zEQ Hown.out hg hb2)
 obtain⟨ec,hec⟩:∃ec,ec=zAV k (.slice a7 v.length c7):=⟨_,rfl⟩
 rw[←hec] at HE2 HB2 HS2;have Hec:=Lib.hid hec;clear hec;simp only[List.drop_succ_cons,List.drop_zero,Act.put,List.getElem_toArray,List.getElem_cons_succ,List.getElem_cons_zero,List.setIfInBounds_toArray,List.set_cons_succ,List.set_cons_zero]
 go_wp2_with (first
  |((with_reducible refine zEG 52 ?_);refine zAM rfl 52 _ rfl (zBB 0 [.agg (kv k),.slice a7 v.length c7]) ?_ _ HB2.out ?_;(·(simp[Act.eval,zBB];done)))
  |((with_reducible refine zAN 52 ?_);refine zCW st8 rfl 52 _ _ rfl 1 b2 rfl (.agg ec) rfl _ _ rfl (zBU HS2.out) (by show ec.size=ze.size;rw[HS2.out,hze]) HE2.out _ rfl ?_;intro w9 st9 hg9;have Hr9:=Lib.hid (HF.out _ hg9);clear st8 hg9))
 refine zBX rfl b2 _ _ _ rfl (st9.at (i:=1) rfl) zFR.choose_spec.1 zFR.choose_spec.2 (zBU HS2.out) rfl ⟨a7,c7,?_,Hr9.out,st9.below⟩;rw[Hec.out];rfl
def GetTPost(w:World)(e:Ending)(w':World):Prop:=∃(s:Value) (l:List Nat) (b:Bool),e=.returned (.tuple #[s,.bool b])∧RdB w' s l∧Below w.heap.size w w'
set_option maxRecDepth 20000 in
theorem FGet_calls(KK:List Int)(bits:Int)(k:List Nat)(hk:Key k)(t:Tr)(p:Option Addr)(w:World)(ht:RepT KK bits w p t)(hw:wayOK k 0 t) :
  Calls Tryz.prog 117 #[.pointer p,.agg (kv k)] w (GetTPost w):=by
 obtain⟨m,nd,hW⟩:=way_ex k t 0 (by omega) hw;have HP:Hid (∀(s:Value)(l:List Nat) (b:Bool) (w':World),RdB w' s l→Below w.heap.size w w'→GetTPost w (.returned (.tuple #[s,.bool b])) w'):=fun s l b w' h1 h2=>⟨s,l,b,rfl,h1,h2⟩
 generalize GetTPost w=R at *;have HT:=Lib.hid ht;have Hk:=Lib.hid hk.len;have HLo:=Lib.hid (fun wx h=>LocateT_calls KK bits k hk t p wx h m nd hW);clear ht hk hw;have st:=St.init w;go_enter Tryz.func117,Tryz.ntmps117
 go_wp2_with (first
  |(refine zAD st rfl 37 _ rfl (kv k) rfl ?_;intro b3 w1 st1;clear st)
  |((with_reducible refine zBA 37 ?_);refine zAC rfl 37 _ rfl b3 rfl _ zBF rfl _ _ (st1.at (i:=0) rfl) (zAX Hk.out) ?_)
  |(go_at_call 38;refine(HLo.out _ (HT.out.call st1.below)).mono ?_;rintro e w2 ⟨q,rfl,hrq,hb2⟩;have st2:=st1.call hb2;have HRq:=Lib.hid (hrq.call hb2);clear st1 hb2 hrq))
 have hr3:=st2.at (i:=0) rfl
 cases hnd:nd m with
 |leaf k2 v2 =>
  rw[hnd] at HRq;have hkk2:Key k2:=by obtain⟨_,_,_,_,_,_,h,_⟩:=HRq.out;exact h
  have HKj:Hid (∀wx,RepT KK bits wx q (.leaf k2 v2)→Calls Tryz.prog 39 #[.pointer q] wx fun e w'=>e=.returned (.int .i64 1)∧w'=wx):=fun wx h=>zBW KK bits (.leaf k2 v2) q wx h
  have HLf:=Lib.hid (fun wx h=>zGF KK bits (.leaf k2 v2) q wx h);have HEn:=Lib.hid (fun wx h=>Entry_calls KK bits k2 v2 q wx h);have Hx:Hid ((zFW KK bits (.leaf k2 v2)).length=64∧(zFW KK bits (.leaf k2 v2)).take 32=k2):=⟨zJC HRq.out,List.take_left' hkk2.len⟩
  have hq:=eqlKey k2 k hkk2.len Hk.out;have hgk:=zIP;have hf:=fun wx=>zIB (zFW KK bits (.leaf k2 v2)) Hx.out.1 wx
  rw[Hx.out.2] at hf;generalize zFW KK bits (.leaf k2 v2)=X at *;refine Inv.wp_region_inv 10 (fun wx=>Below w2.heap.size w2 wx) zBL (by kernel_rfl) (Below.refl _ _).drew ?_;simp only[List.take_succ_cons,List.take_zero,List.drop_succ_cons,List.drop_zero]
  iterate 1
   (refine Inv.wpInv_step (fun K hK=>?_);go_simp;apply zAL;· (intro wx hw;go_simp;(try go_ints);(try go_simp);(try (rw[if_pos (by omega)]));(try go_simp);(first | done | rfl))
    refine hK _ ?_;clear hK K)
  (refine Inv.wpInv_step (fun K hK=>?_);go_simp;refine⟨.int .i64 1,zDM 39 #[.pointer q] (fun wx _=>by go_simp) (fun wx hw=>(HKj.out wx (HRq.out.call hw)).mono (fun e w' h=>⟨h.1,h.2▸hw⟩)),?_⟩
   refine hK _ ?_;clear hK K)
  iterate 3
   (refine Inv.wpInv_step (fun K hK=>?_);go_simp;apply zAL;· (intro wx hw;go_simp;(try go_ints);(try go_simp);(try (rw[if_pos (by omega)]));(try go_simp);(first | done | rfl))
    refine hK _ ?_;clear hK K)
  (refine Inv.wpInv_step (fun K hK=>?_);go_simp;refine⟨.agg (kv X),zDM 40 #[.pointer q] (fun wx _=>by go_simp) (fun wx hw=>(HLf.out wx (HRq.out.call hw)).mono (fun e w' h=>⟨h.1,hw.trans (h.2.mono hw.size)⟩)),?_⟩
   refine hK _ ?_;clear hK K)
  (refine Inv.wpInv_step (fun K hK=>?_);go_simp;apply zAL;· (intro wx hw;have q1:=hf wx;go_simp;(first | done | rfl))
   refine hK _ ?_;clear hK K)
  (refine Inv.wpInv_step (fun K hK=>?_);go_simp;refine zDP 37 _ rfl b3 rfl _ zBF rfl _ _ (fun wx hw=>(hw.block b3 (zAG hr3)).trans hr3) (zAX Hk.out) ?_
   refine hK _ ?_;clear hK K)
  cases hd:decide (k2=k)
  ·rw[hd] at hq
   iterate 2
    (refine Inv.wpInv_step (fun K hK=>?_);go_simp;apply zAL;· (intro wx hw;go_simp;(try go_ints);(try go_simp);(try (rw[if_pos (by omega)]));(try go_simp);(first | done | rfl))
     refine hK _ ?_;clear hK K)
   refine Inv.wpInv_nil ?_;intro w4 hb4;have st4:=st2.call hb4;clear st2 hb4;go_wp2;exact HP.out _ [] _ _ (RdB.nil _) st4.below
  ·rw[hd] at hq
   iterate 2
    (refine Inv.wpInv_step (fun K hK=>?_);go_simp;apply zAL;· (intro wx hw;go_simp;(try go_ints);(try go_simp);(try (rw[if_pos (by omega)]));(try go_simp);(first | done | rfl))
     refine hK _ ?_;clear hK K)
   refine Inv.wpInv_nil ?_;intro w4 hb4;have st4:=st2.call hb4;have Hr4:=Lib.hid (HRq.out.call hb4);have hfe:=fun a c wx=>fieldEntryV k2 (.slice a v2.length c) hkk2.len wx
   clear st2 hb4
   go_wp2_with (first
    |(go_at_call 150;refine(HEn.out _ Hr4.out).mono ?_;rintro e w5 ⟨a5,c5,rfl,hrd5,hb5⟩;have st5:=st4.call hb5;have hf5:=hfe a5 c5 w5;have Hrd5:=Lib.hid hrd5;clear st4 hb5 hrd5 hfe;generalize zAV k2 (.slice a5 v2.length c5)=ec5 at *))
   exact HP.out _ _ _ _ Hrd5.out st5.below
 |nil =>
  rw[hnd] at HRq;have HKj:Hid (∀wx,RepT KK bits wx q .nil→Calls Tryz.prog 39 #[.pointer q] wx fun e w'=>e=.returned (.int .i64 0)∧w'=wx):=fun wx h=>zBW KK bits .nil q wx h
  refine Inv.wp_region_inv 10 (fun wx=>Below w2.heap.size w2 wx) zBL (by kernel_rfl) (Below.refl _ _).drew ?_;simp only[List.take_succ_cons,List.take_zero,List.drop_succ_cons,List.drop_zero]
  iterate 1
   (refine Inv.wpInv_step (fun K hK=>?_);go_simp;apply zAL;· (intro wx hw;go_simp;(try go_ints);(try go_simp);(try (rw[if_pos (by omega)]));(try go_simp);(first | done | rfl))
    refine hK _ ?_;clear hK K)
  (refine Inv.wpInv_step (fun K hK=>?_);go_simp;refine⟨.int .i64 0,zDM 39 #[.pointer q] (fun wx _=>by go_simp) (fun wx hw=>(HKj.out wx (HRq.out.call hw)).mono (fun e w' h=>⟨h.1,h.2▸hw⟩)),?_⟩
   refine hK _ ?_;clear hK K)
  iterate 2
   (refine Inv.wpInv_step (fun K hK=>?_);go_simp;apply zAL;· (intro wx hw;go_simp;(try go_ints);(try go_simp);(try (rw[if_pos (by omega)]));(try go_simp);(first | done | rfl))
    refine hK _ ?_;clear hK K)
  iterate 5 (refine Inv.wpInv_step (fun K hK=>?_);go_simp;refine hK _ ?_;clear hK K)
  iterate 1
   (refine Inv.wpInv_step (fun K hK=>?_);go_simp;apply zAL;· (intro wx hw;go_simp;(try go_ints);(try go_simp);(try (rw[if_pos (by omega)]));(try go_simp);(first | done | rfl))
    refine hK _ ?_;clear hK K)
  refine Inv.wpInv_nil ?_;intro w4 hb4;have st4:=st2.call hb4;clear st2 hb4;go_wp2;exact HP.out _ [] _ _ (RdB.nil _) st4.below
 |inner l r =>
  have:=hW.last;rw[hnd] at this;exact absurd rfl this
end
section
set_option maxHeartbeats 2000000
open Go Go.RowKit
attribute [local irreducible] Inv.wpInv Mix.wpUp
def GetPostT(w:World)(e:Ending)(w':World):Prop:=∃(s:Value) (l:List Nat) (b:Bool) (v:Value),e=.returned (.tuple #[s,.bool b,v])∧RdB w' s l∧Below w.heap.size w w'∧(v=.nilIface∨∃code:Int,IsErr w' v [(String.toUTF8 "get",0)] (.iface 31 (.int .i64 code)))
set_option maxRecDepth 20000 in
theorem TGetT_calls(KK:List Int)(bits:Int)(tb hb:Nat)(k:List Nat)(hk:Key k)(t:Tr)(p:Option Addr)(vk:Value)(w:World)(htr:HasTr tb hb p w)(hvk:RdB w vk k)(ht:RepT KK bits w p t)(hw:wayOK k 0 t) :
  Calls Tryz.prog 70 #[.pointer (some ⟨tb,0,none⟩),vk] w (GetPostT w):=by
 have HP:Hid (∀(s:Value)(l:List Nat) (b:Bool) (w':World),RdB w' s l→Below w.heap.size w w'→GetPostT w (.returned (.tuple #[s,.bool b,.nilIface])) w'):=fun s l b w' h1 h2=>⟨s,l,b,_,rfl,h1,h2,.inl rfl⟩
 generalize GetPostT w=R at *;have HTr:=Lib.hid htr;have HT:=Lib.hid ht;have HVK:=Lib.hid hvk;have HS:=Lib.hid (fun wx h=>start_ok tb (String.toUTF8 "get") k vk hk.len none 0 0 (by omega) wx h);have HG:=Lib.hid (fun wx h=>FGet_calls KK bits k hk t p wx h hw);have HES:=Lib.hid (zBM k (.slice none 0 0) hk.len);have HE1:=Lib.hid (zCM k none 0 0);have Hp6:=Lib.hid (zDJ k (.slice none 0 0) hk.len);obtain⟨ze,hze,hz0⟩:=zEA;clear htr ht hvk hk hw;generalize zAV k (.slice none 0 0)=ec at *;have st:=St.init w;go_enter Tryz.func70,Tryz.ntmps70
 go_wp2_with (first
  |(go_at_call 47;refine(HS.out _ HVK.out).mono ?_;rintro e w1 ⟨rfl,hbel⟩;have st1:=St.call st hbel;clear st hbel)
  |((with_reducible refine zAW 52 ?_);refine zAE st1 rfl 52 rfl _ hz0 ?_;intro b7 w2 st2;clear st1)
  |((with_reducible refine zAN 52 ?_);refine zAA st2 rfl 52 _ _ rfl 0 b7 rfl (.agg ec) rfl _ _ rfl (zBU HES.out) (by show ec.size=_;rw[HES.out,hze]) HE1.out _ rfl ?_;intro w3 st3;clear st2))
 have st4:St w.heap.size w [(b7,ec,52)] w3:=st3;clear st3;have q:∀wx,St w.heap.size w [(b7,ec,52)] wx→wx.cell? ⟨tb,1,none⟩=some (.pointer p):=fun wx hw=>(HTr.out.call hw.below).cell1
 refine Mix.wp_region_mix 12 (St w.heap.size w [(b7,ec,52)]) zBL (by kernel_rfl) st4.drew ?_;intro F inv;refine Mix.good_batch (f:=6) F St.up [0,1,2,3,4,5] _ _ inv (by kernel_rfl) ?_;clear inv st4
 iterate 5
  (refine Mix.wpUp_cons rfl (fun K hK=>?_);go_simp;apply zAU;· (intro wx hw;have q1:=q wx hw;go_simp;(try go_ints);(try go_simp);(try (rw[if_pos (by omega)]));(try go_simp);(first | done | rfl))
   refine hK _ ?_;clear hK K)
 (refine Mix.wpUp_cons rfl (fun K hK=>?_);go_simp;refine zHS 37 _ rfl b7 0 32 rfl zBN _ _ (fun wx hw=>hw.at (i:=0) rfl) zBC (by rw[HES.out];decide) _ Hp6.out ?_
  refine hK _ ?_;clear hK K)
 refine Mix.wpUp_nil ?_;intro inv;refine Mix.good_one (i:=6) (f:=5) (by kernel_rfl) inv (fun w6 st6=>?_);clear inv q;refine zAT rfl rfl 117 #[.pointer p,.agg (kv k)] (by go_simp) ?_;refine(HG.out _ (HT.out.call st6.below)).mono ?_;rintro e w7 ⟨s,l,b,rfl,hrd,hb7⟩;refine⟨_,rfl,fun wx=>St w.heap.size w [(b7,ec,52)] wx∧RdB wx s l,fun _ _ h hb=>⟨h.1.call hb,h.2.call hb⟩,⟨st6.call hb7,hrd⟩,fun _ h=>h.1,fun inv=>?_⟩;clear st6 hrd hb7;refine Mix.good_batch (f:=0) F (fun _ _ h hb=>⟨h.1.call hb,h.2.call hb⟩) [7,8,9,10,11] _ _ inv (by kernel_rfl) ?_;clear inv
 iterate 5
  (refine Mix.wpUp_cons rfl (fun K hK=>?_);go_simp;apply zAU;· (intro wx hw;go_simp;(try go_ints);(try go_simp);(try (rw[if_pos (by omega)]));(try go_simp);(first | done | rfl))
   refine hK _ ?_;clear hK K)
 refine Mix.wpUp_nil ?_;intro inv;clear inv F;refine⟨by kernel_rfl,fun w8 ⟨st8,hrd8⟩=>?_⟩;have Hrd:=Lib.hid hrd8;clear hrd8;simp only[List.drop_succ_cons,List.drop_zero];go_wp2;go_ret3;exact HP.out _ _ _ _ Hrd.out st8.below
def DelBad(w:World)(e:Ending)(w':World):Prop:=∃(v:Value) (code:Int),e=.returned (.tuple #[.bool false,v])∧IsErr w' v [(String.toUTF8 "delete",0)] (.iface 31 (.int .i64 code))∧Below w.heap.size w w'
set_option maxRecDepth 20000 in
theorem TDel_bad(tb:Nat)(kl:List Nat)(v:Value)(w:World)(hv:RdB w v kl)(hbad:kl.length≠32) :
  Calls Tryz.prog 72 #[.pointer (some ⟨tb,0,none⟩),v] w (DelBad w):=by
 have HP:Hid (∀(v:Value)(code:Int) (w':World),IsErr w' v [(String.toUTF8 "delete",0)] (.iface 31 (.int .i64 code))→Below w.heap.size w w'→DelBad w (.returned (.tuple #[.bool false,v])) w'):=fun v code w' h1 h2=>⟨v,code,rfl,h1,h2⟩
 generalize DelBad w=R at *;have HS:=Lib.hid (start_bad tb (String.toUTF8 "delete") kl v none 0 0 (by omega) w hv (.inl hbad));obtain⟨ze,hze,hz0⟩:=zEA;clear hv hbad;have st:=St.init w;go_enter Tryz.func72,Tryz.ntmps72
 go_wp2_with (first
  |(go_at_call 47;refine HS.out.mono ?_;rintro e w1 ⟨ec,v1,code,rfl,hes,he1,her,hbel⟩;have st1:=St.call st hbel;have HEs:=Lib.hid hes;have HE1:=Lib.hid he1;obtain⟨et,eu,hev⟩:=her.iface;have HEr:=Lib.hid her;clear st hbel hes he1 her;subst hev)
  |((with_reducible refine zAW 52 ?_);refine zIW st1 rfl 52 rfl (.agg ze) hz0 ?_;intro b7 w2 st2 hbg hb2;have HEr2:=Lib.hid (HEr.out.call hb2);clear st1 HEr hbg hb2)
  |((with_reducible refine zAN 52 ?_);refine zCW st2 rfl 52 _ _ rfl 0 b7 rfl (.agg ec) rfl _ _ rfl (zBU HEs.out) (by show ec.size=ze.size;rw[HEs.out,hze]) HE1.out _ rfl ?_;intro w3 st3 hg3;have HEr3:=Lib.hid (HEr2.out.turn (st2.at (i:=0) rfl) (by decide) hg3);clear st2 HEr2 hg3))
 exact HP.out _ _ _ HEr3.out st3.below
set_option maxRecDepth 20000 in
theorem TDelT_calls(KK:List Int)(tb:Nat)(k:List Nat)(t:Tr)(p:Option Addr)(vk:Value)(hb cb:Nat)(bits n:Int)(w:World)(ht:HasTr tb hb p w)(hh:HasH hb cb bits n w)(hB:0≤bits∧bits≤256)(hn:0≤n∧n≤3999999999999980000)
  (hk:Key k) (hvk:RdB w vk k) (hK:HasK KK w) (hr:RepT KK bits w p t) (hw:wayOK k 0 t) :
  Calls Tryz.prog 72 #[.pointer (some ⟨tb,0,none⟩),vk] w (TrPost KK bits tb hb cb n 1000 ((remT k 0 t).getD t) (.tuple #[.bool (remT k 0 t).isSome,.nilIface]) w):=by
 have HT:=Lib.hid ht;have HR:=Lib.hid hr;have HH:=Lib.hid hh;have HVK:=Lib.hid hvk;have HKK:=Lib.hid hK;have HS:=Lib.hid (fun wx h=>start_ok tb (String.toUTF8 "delete") k vk hk.len none 0 0 (by omega) wx h);have HN:=Lib.hid (fun wx h1 h2 h3=>Remove_calls KK k hk hb cb bits n hB hn t p wx hw h1 h2 h3);have HES:=Lib.hid (zBM k (.slice none 0 0) hk.len);have HE1:=Lib.hid (zCM k none 0 0);have Hp6:=Lib.hid (zDJ k (.slice none 0 0) hk.len);obtain⟨ze,hze,hz0⟩:=zEA;clear ht hh hvk hK hB hn hk hr hw;have st:=St.init w;generalize zAV k (.slice none 0 0)=ec at *;generalize remT k 0 t=res at *;have HPo:Hid (∀(w':World)(p':Option Addr) (n':Int),HasTr tb hb p' w'→RepT KK bits w' p' (res.getD t)→HasH hb cb bits n' w'→n≤n'→n'≤n+1000→DataKept w w'→w.heap.size≤w'.heap.size→(∀B,B≤tb→B≤cb→Below B w w')→TrPost KK bits tb hb cb n 1000 (res.getD t) (.tuple #[.bool res.isSome,.nilIface]) w (.returned (.tuple #[.bool res.isSome,.nilIface])) w'):=fun w' p' n' h1 h2 h3 h4 h5 h6 h7 h8=>⟨p',n',rfl,h1,h2,h3,h4,h5,h6,h7,h8⟩
 generalize TrPost KK bits tb hb cb n 1000 (res.getD t) (.tuple #[.bool res.isSome,.nilIface]) w=R at *;go_enter Tryz.func72,Tryz.ntmps72
 go_wp2_with (first
  |(go_at_call 47;refine(HS.out _ HVK.out).mono ?_;rintro e w1 ⟨rfl,hbel⟩;have st1:=St.call st hbel;clear st hbel)
  |((with_reducible refine zAW 52 ?_);refine zAE st1 rfl 52 rfl _ hz0 ?_;intro b7 w2 st2;clear st1)
  |((with_reducible refine zAN 52 ?_);refine zAA st2 rfl 52 _ _ rfl 0 b7 rfl (.agg ec) rfl _ _ rfl (zBU HES.out) (by show ec.size=_;rw[HES.out,hze]) HE1.out _ rfl ?_;intro w3 st3;clear st2;have st4:=StH.init HH.out st3))
 have st4':StH w cb n [(b7,ec,52)] w3:=st4;clear st3 st4;have q:∀wx,(∃m,StH w cb m [(b7,ec,52)] wx)→wx.cell? ⟨tb,0,none⟩=some (.pointer (some ⟨hb,0,none⟩))∧wx.cell? ⟨tb,1,none⟩=some (.pointer p):=fun wx ⟨_,hw⟩=>by
  have h:=HT.out.turn HH.out (StH.grown hw);exact⟨h.cell0,h.cell1⟩
 refine Mix2.wp_region_mix (J:=fun wx=>∃m,StH w cb m [(b7,ec,52)] wx) 16 (StH w cb n [(b7,ec,52)]) zBL (by kernel_rfl) st4'.drew ?_;intro F inv;refine Mix2.good_batch (f:=6) F St.up (fun _ h=>⟨_,h⟩) [0,1,2,3,4,5,6,7,8,9] _ _ inv (by kernel_rfl) ?_;clear inv st4'
 iterate 9
  (refine Mix.wpUp_cons rfl (fun K hK=>?_);go_simp;apply zAU;· (intro wx hw;have q1:=q wx hw;go_simp;(try go_ints);(try go_simp);(try (rw[if_pos (by omega)]));(try go_simp);(first | done | rfl))
   refine hK _ ?_;clear hK K)
 (refine Mix.wpUp_cons rfl (fun K hK=>?_);go_simp;refine zHS 37 _ rfl b7 0 32 rfl zBN _ _ (fun wx hw=>hw.choose_spec.at (i:=0) rfl) zBC (by rw[HES.out];decide) _ Hp6.out ?_
  refine hK _ ?_;clear hK K)
 refine Mix.wpUp_nil ?_;intro inv;refine Mix2.good_one (i:=10) (f:=5) (by kernel_rfl) inv (fun w6 st6=>?_);clear inv q;refine zAT rfl rfl 118 #[.pointer (some ⟨hb,0,none⟩),.pointer p,.agg (kv k)] (by go_simp) ?_;refine(HN.out _ (StH.has st6 HH.out) (StH.hasK st6 HH.out HKK.out) (StH.rep st6 HH.out HR.out)).mono ?_;rintro e w7 ⟨p7,n7,rfl,hr7,hg,hh7,ha7,hb7⟩;have st7:=StH.sum st6 HH.out hg hh7;refine⟨_,rfl,fun wx=>StH w cb n7 [(b7,ec,52)] wx∧RepT KK bits wx p7 (res.getD t),?_,⟨st7,hr7⟩,fun _ h=>⟨_,h.1⟩,fun inv=>?_⟩
 ·exact fun wx wy h hb=>⟨St.call h.1 hb,h.2.call hb⟩
 clear st6 hg hr7 st7 hh7 w6 w7;refine Mix2.good_batch (f:=0) F (fun _ _ h hb=>⟨St.call h.1 hb,h.2.call hb⟩) (fun _ h=>⟨_,h.1⟩) [11,12,13,14,15] _ _ inv (by kernel_rfl) ?_;clear inv
 iterate 5
  (refine Mix.wpUp_cons rfl (fun K hK=>?_);go_simp;apply zAU;· (intro wx hw;go_simp;(try go_ints);(try go_simp);(try (rw[if_pos (by omega)]));(try go_simp);(first | done | rfl))
   refine hK _ ?_;clear hK K)
 refine Mix.wpUp_nil ?_;intro inv;clear inv F;refine⟨by kernel_rfl,fun w7 ⟨st7,hr7⟩=>?_⟩;have ht7:=HT.out.turn HH.out (StH.grown st7);have hh7:=StH.has st7 HH.out;have HR7:=Lib.hid hr7;clear hr7;simp only[List.drop_succ_cons,List.drop_zero]
 go_wp2_with (first
  |(refine zDR rfl 59 _ _ rfl tb 1 rfl (.pointer p7) rfl _ _ ht7 zFU rfl (by simp) rfl _ rfl ?_;intro w8 hg8 ht8))
 have htl:=zAG HT.out;exact HPo.out _ p7 n7 ht8 (HR7.out.box ht7 (by decide) (fun i x=>by rcases i with _ | _ | i<;>simp) hg8) (hh7.keep ht7 hg8) ha7 hb7
  ((DataKept.turn HH.out (StH.grown st7)).trans (DataKept.tree ht7 hg8)) (Nat.le_trans (StH.grown st7).size hg8.size)
  (fun B h1 h2=>(zCY (StH.grown st7) (zAG HH.out.c) h2).trans (zCY hg8 (zAG ht7) h1))
end
section
open Go Go.RowKit
theorem entc_data(e:List Nat×Value)(h:isData e.2):∀u∈zFS e,isData u:=fun u hu=>by
 rcases List.mem_append.1 hu with hu | hu
 ·obtain⟨x,_,rfl⟩:=List.mem_map.1 hu
  exact trivial
 ·rw[List.mem_singleton.1 hu]
  exact h
structure GrowS (bt:Value→List Nat)(bits:Int)(tb hb cb:Nat)(n:Int)(m:List (List Nat×Value))(p:Option Addr)(w:World):Prop where
 tr:HasTr tb hb p w
 rep:RepT zAK bits w p (zCI 257 (zFH bt m) 0)
 hh:HasH hb cb bits n w
 ge:GoodEs w bt m
 sl:∀e∈m,∃a n c,e.2=.slice a n c
 dist:DistAt m 0
section
variable {bt:Value→List Nat} {bits n:Int} {tb hb cb:Nat} {m:List (List Nat×Value)} {p:Option Addr} {w w':World}
theorem GrowS.call(h:GrowS bt bits tb hb cb n m p w)(hb':Below w.heap.size w w'):GrowS bt bits tb hb cb n m p w' :=
 ⟨h.tr.call hb',h.rep.call hb',h.hh.call hb',h.ge.call hb',h.sl,h.dist⟩
theorem GrowS.goodK(h:GrowS bt bits tb hb cb n m p w):GoodK m:=fun e he=>⟨(h.ge e he).1,(h.ge e he).2.1⟩
theorem GrowS.bld(h:GrowS bt bits tb hb cb n m p w):DistB (zFH bt m) 0:=h.dist.bld fun e he=>(h.ge e he).1
theorem GrowS.way(h:GrowS bt bits tb hb cb n m p w){k:List Nat}(hk:Key k):wayOK k 0 (zCI 257 (zFH bt m) 0):=wayOK_bld hk 256 0 _ rfl h.bld (fun _ _ _ hj=>absurd hj (Nat.not_lt_zero _))
theorem GoodEs.data{va:Value→List Nat}{es:List (List Nat×Value)}(h:GoodEs w va es)(hd:DataKept w w'):GoodEs w' va es:=fun e he=>⟨(h e he).1,(h e he).2.1,(h e he).2.2.1.data hd,(h e he).2.2.2⟩
theorem RdEs.data{v:Value}(hs:∀e∈m,∃a n c,e.2=.slice a n c)(h:RdEs w v m)(hd:DataKept w w'):RdEs w' v m:=by
 obtain⟨h1,h2,a,c,h3,h4,h5⟩:=h;refine⟨h1,h2,a,c,h3,h4,fun hne=>?_⟩;obtain⟨b,off,ha,hi⟩:=h5 hne;refine⟨b,off,ha,fun i hl j u hj=>hd b _ u ?_ (hi i hl j u hj)⟩;obtain⟨x,y,z,e⟩:=hs m[i] (List.getElem_mem _);exact entc_data m[i] (by rw[e];exact trivial) u (List.mem_of_getElem? hj)
theorem ins_tree(hD:DistB (zFH bt m) 0){k:List Nat}(hk:Key k)(s:Value):zJK k (bt s) 0 (zCI 257 (zFH bt m) 0)=zCI 257 (zFH bt (putE m k s)) 0:=by
 rw[insT_bld hk 256 0 _ rfl hD (fun _ _ _ hj=>absurd hj (Nat.not_lt_zero _))];exact bldT_perm 257 0 (putE_ent bt m k s).symm
theorem rem_tree(hD:DistB (zFH bt m) 0)(k:List Nat):(remT k 0 (zCI 257 (zFH bt m) 0)).getD (zCI 257 (zFH bt m) 0)=zCI 257 (zFH bt (if m.any (fun e=>decide (e.1=k)) then m.filter (fun e=>decide (e.1≠k)) else m)) 0:=by
 rw[remT_bld 256 0 _ rfl hD];have e1:(zFH bt m).any (fun e=>decide (e.1=k))=m.any fun e=>decide (e.1=k):=by
  unfold zFH;rw[List.any_map];rfl
 rw[e1]
 cases m.any fun e=>decide (e.1=k)
 ·rfl
 ·rw[if_pos rfl,if_pos rfl,entE_ne]
  rfl
theorem putE_mem{k:List Nat}{s:Value}{e:List Nat×Value}(h:e∈putE m k s):e=(k,s)∨e∈m:=by
 rcases insE_mem _ _ _ h with h | h
 ·exact .inl h
 ·exact .inr (List.mem_filter.1 h).1
theorem GrowS.put(h:GrowS bt bits tb hb cb n m p w){k:List Nat}(hk:Key k){a:Option Addr}{l c:Nat}(hs:RdB w (.slice a l c) (bt (.slice a l c))∧(∀x∈bt (.slice a l c),x<256)∧(bt (.slice a l c)).length≤100000){p':Option Addr}{n':Int}(h1:HasTr tb hb p' w')(h2:RepT zAK bits w' p' (zJK k (bt (.slice a l c)) 0 (zCI 257 (zFH bt m) 0)))(h3:HasH hb cb bits n' w')(hd:DataKept w w') :
  GrowS bt bits tb hb cb n' (putE m k (.slice a l c)) p' w':=by
 refine⟨h1,?_,h3,?_,?_,putE_dist h.dist⟩
 ·rw[←ins_tree h.bld hk]
  exact h2
 ·intro e he
  rcases putE_mem he with rfl | he
  ·exact⟨hk,rfl,hs.1.data hd,hs.2⟩
  ·exact h.ge.data hd e he
 ·intro e he
  rcases putE_mem he with rfl | he
  ·exact⟨a,l,c,rfl⟩
  ·exact h.sl e he
theorem GrowS.del(h:GrowS bt bits tb hb cb n m p w){k:List Nat}{p':Option Addr}{n':Int}(h1:HasTr tb hb p' w')(h2:RepT zAK bits w' p' ((remT k 0 (zCI 257 (zFH bt m) 0)).getD (zCI 257 (zFH bt m) 0)))(h3:HasH hb cb bits n' w')(hd:DataKept w w') :
  GrowS bt bits tb hb cb n' (if m.any (fun e=>decide (e.1=k)) then m.filter (fun e=>decide (e.1≠k)) else m) p' w':=by
 rw[rem_tree h.bld] at h2
 cases hm:m.any fun e=>decide (e.1=k)
 ·rw[hm] at h2
  exact⟨h1,h2,h3,h.ge.data hd,h.sl,h.dist⟩
 ·rw[hm] at h2
  exact⟨h1,h2,h3,(h.ge.data hd).filter _,fun e he=>h.sl e (List.mem_filter.1 he).1,remE_dist h.dist⟩
theorem upE_mem{kb:Upd→List Nat}{u:Upd}{e:List Nat×Value}(h:e∈upE kb m u):(u.del=false∧e=(kb u,.slice u.va u.vn u.vc))∨e∈m:=by
 unfold upE at h
 cases hd:u.del
 ·rw[hd,if_neg (by decide)] at h
  rcases putE_mem h with h | h
  ·exact .inl ⟨rfl,h⟩
  ·exact .inr h
 ·rw[hd,if_pos rfl] at h
  exact .inr (List.mem_filter.1 h).1
theorem applyE_mem{kb:Upd→List Nat}{e:List Nat×Value}:∀{us:List Upd} {m:List (List Nat×Value)},e∈zGG kb m us→(∃u∈us,u.del=false∧e=(kb u,.slice u.va u.vn u.vc))∨e∈m
 |[],_,h=>.inr h
 |u::us,m,h=>by
  rcases applyE_mem (us:=us) (m:=upE kb m u) h with ⟨x,hx,h1,h2⟩ | h
  ·exact .inl ⟨x,List.mem_cons_of_mem _ hx,h1,h2⟩
  ·rcases upE_mem h with ⟨h1,h2⟩ | h
   ·exact .inl ⟨u,List.mem_cons_self,h1,h2⟩
   ·exact .inr h
theorem GrowS.apply(h:GrowS bt bits tb hb cb n m p w)(kb:Upd→List Nat)(us:List Upd)(hus:∀u∈us,Key (kb u)∧(u.del=false→RdB w (.slice u.va u.vn u.vc) (bt (.slice u.va u.vn u.vc))∧(∀x∈bt (.slice u.va u.vn u.vc),x<256)∧(bt (.slice u.va u.vn u.vc)).length≤100000)){p':Option Addr}{n':Int}(h1:HasTr tb hb p' w')(h2:RepT zAK bits w' p' (zCI 257 (zFH bt (zGG kb m us)) 0))(h3:HasH hb cb bits n' w')(hd:DataKept w w') :
  GrowS bt bits tb hb cb n' (zGG kb m us) p' w':=by
 refine⟨h1,h2,h3,?_,?_,applyE_dist us m h.dist⟩
 ·intro e he
  rcases applyE_mem he with ⟨u,hu,hdl,rfl⟩ | he
  ·have:=(hus u hu).2 hdl
   exact⟨(hus u hu).1,rfl,this.1.data hd,this.2⟩
  ·exact h.ge.data hd e he
 ·intro e he
  rcases applyE_mem he with ⟨u,hu,hdl,rfl⟩ | he
  ·exact⟨_,_,_,rfl⟩
  ·exact h.sl e he
end
end
section
open Go Go.RowKit
attribute [local irreducible] Inv.wpInv Mix.wpUp
theorem DigestNN_calls(KK:List Int)(bits:Int)(t:Tr)(p:Option Addr)(h:Value)(hne:zBZ t≠0)(w:World)(hr:RepT KK bits w p t) :
  Calls Tryz.prog 43 #[h,.pointer p] w fun e w'=>e=.returned (.agg (kv (zJL KK bits t)))∧Below w.heap.size w w':=by
 cases t with
 |nil=>exact absurd rfl hne
 |leaf k v=>obtain⟨nb,a,c,rfl,hr,_⟩:=hr;exact zGR _ _ (zDL KK bits (.leaf k v)).len h nb _ w hr
 |inner l r=>obtain⟨nb,pl,pr,m,rfl,hr,_⟩:=hr;exact zGR _ _ (zDL KK bits (.inner l r)).len h nb _ w hr
def bmS(ts:Nat→Tr):Nat→List Nat
 |0=>zAH
 |j+1=>if zBZ (ts j)=0 then bmS ts j else orI (bmS ts j) (j:Nat)
def sbS(KK:List Int)(bits:Int)(ts:Nat→Tr):Nat→List (List Nat)
 |0=>[]
 |j+1=>if zBZ (ts j)=0 then sbS KK bits ts j else sbS KK bits ts j++[zJL KK bits (ts j)]
theorem bmS_key(ts:Nat→Tr):∀j,Key (bmS ts j)
 |0=>zIO
 |j+1=>by
  unfold bmS
  split
  ·exact bmS_key ts j
  ·exact(bmS_key ts j).or _
theorem sbS_len(KK:List Int)(bits:Int)(ts:Nat→Tr):∀j,(sbS KK bits ts j).length≤j∧(sbS KK bits ts j).flatten.length=32*(sbS KK bits ts j).length
 |0=>⟨Nat.le_refl _,rfl⟩
 |j+1=>by
  have ih:=sbS_len KK bits ts j;unfold sbS
  split
  ·exact⟨by omega,ih.2⟩
  ·rw[List.length_append,List.flatten_append,List.length_append]
   have:=(zDL KK bits (ts j)).len;refine⟨by simp;omega,?_⟩;simp only[List.flatten_cons,List.flatten_nil,List.append_nil,List.length_cons,List.length_nil,this];omega
theorem RdN.ne{w w':World}{a:Option Addr}{m:Nat}{ps:Nat→Option Addr}{row:Option Nat}(h:RdN w a m ps)(hg:w.grownBy w' row)(hne:∀ad,a=some ad→row≠some ad.block):RdN w' a m ps:=fun i hi=>by
 obtain⟨g,off,e,hc⟩:=h i hi;exact⟨g,off,e,(World.cell?_of_block (w:=w) (hg.block g (zAS hc) (fun e'=>hne _ e e'.symm))).trans hc⟩
theorem hlt4{B:Nat}{w0 w:World}{b1 b2 b3 b4:Nat}{c1 c2 c3 c4:Array Value}{t1 t2 t3 t4:TypeId}(st:St B w0 [(b1,c1,t1),(b2,c2,t2),(b3,c3,t3),(b4,c4,t4)] w):b1<w.heap.size∧b2<w.heap.size∧b3<w.heap.size∧b4<w.heap.size :=
 ⟨zAG (st.at (i:=0) rfl),zAG (st.at (i:=1) rfl),zAG (st.at (i:=2) rfl),zAG (st.at (i:=3) rfl)⟩
end
section
set_option maxHeartbeats 1000000
open Go Go.RowKit
attribute [local irreducible] Inv.wpInv Mix.wpUp
structure Chg where
 k:List Nat
 va:Option Addr
 vn:Nat
 vc:Nat
 del:Bool
def chc(c:Chg):List Value:=zAJ c.k++[.slice c.va c.vn c.vc,.bool c.del]
theorem zFK(c:Chg)(h:c.k.length=32):(chc c).length=34:=by simp[chc,zAI,h]
theorem zDS(c:Chg)(h:c.k.length=32):(chc c).toArray.size=34:=by rw[List.size_toArray,zFK c h]
theorem chc_key(c:Chg)(h:c.k.length=32):(chc c).toArray.extract 0 (0+32)=kv c.k:=by
 rw[←zBK];simp[chc,zAI,h]
theorem chc_del(c:Chg)(h:c.k.length=32):(chc c).toArray[33]?=some (.bool c.del):=by
 rw[List.getElem?_toArray];unfold chc;rw[List.getElem?_append_right (by rw[zAI,h];decide),zAI,h];rfl
theorem zJG(c:Chg):∀u∈(chc c).toArray.toList,u.oneCell'=true:=by
 intro u hu;rcases List.mem_append.1 (show u∈zAJ c.k++[.slice c.va c.vn c.vc,.bool c.del] from hu) with hu | hu
 ·rw[←zCJ] at hu
  exact zBJ _ _ hu
 ·simp only[List.mem_cons,List.not_mem_nil,or_false] at hu
  rcases hu with rfl | rfl<;>rfl
abbrev RdCh(w:World)(v:Value)(cs:List Chg):Prop:=RdG 34 chc w v cs
def KeysCh(cs:List Chg):Prop:=∀c∈cs,Key c.k
theorem zeroCh:(Tryz.prog.info? 276).bind (·.zero)=some (.agg (chc ⟨zAH,none,0,0,false⟩).toArray):=by kernel_rfl
theorem zCD:(Tryz.prog.info? 276).map (·.size)=some 34:=by kernel_rfl
theorem bytesCh:(Tryz.prog.info? 276).map (·.bytes)=some 64:=by kernel_rfl
theorem zDE:Tryz.prog.underlying 235=some (.slice 276):=by kernel_rfl
theorem sliceKeys:Tryz.prog.underlying 299=some (.slice 37):=by kernel_rfl
theorem bytesKey0:(Tryz.prog.info? 37).map (·.bytes)=some 32:=by kernel_rfl
theorem aggCh:∃d,Tryz.prog.underlying 276=some d∧zGJ d=true:=by
 have h:(Tryz.prog.underlying 276).map zGJ=some true:=by kernel_rfl
 cases hq:Tryz.prog.underlying 276 with
 |none=>rw[hq] at h;cases h
 |some d=>rw[hq] at h;exact⟨d,rfl,Option.some.inj h⟩
theorem zHT{cs:Array Value}(h:cs.size=34):(Tryz.prog.info? 276).map (·.size)=some cs.size:=by rw[h];exact zCD
theorem delFn_calls(c:Chg)(hk:c.k.length=32)(w:World) :
  Calls Tryz.prog 183 #[.agg (chc c).toArray] w fun e w'=>e=.returned (.bool c.del)∧Below w.heap.size w w':=by
 have st:=St.init w;have HD:=Lib.hid (chc_del c hk);generalize (chc c).toArray=cc at *;go_enter Tryz.func183,Tryz.ntmps183
 go_wp2_with (first
  |(refine zAD st rfl 276 _ rfl cc rfl ?_;intro b1 w1 st1;clear st;have hc:=(st1.cell (i:=0) rfl 33).trans HD.out))
 go_ret;exact⟨rfl,st1.below⟩
theorem keyFn1_calls(c:Chg)(hk:c.k.length=32)(w:World) :
  Calls Tryz.prog 179 #[.agg (chc c).toArray] w fun e w'=>e=.returned (.agg (kv c.k))∧Below w.heap.size w w':=by
 have st:=St.init w;have Hk:=Lib.hid hk;have HK:=Lib.hid (chc_key c hk);have HS:=Lib.hid (zDS c hk);generalize (chc c).toArray=cc at *;go_enter Tryz.func179,Tryz.ntmps179
 go_wp2_with (first
  |(refine zAD st rfl 276 _ rfl cc rfl ?_;intro b1 w1 st1;clear st)
  |((with_reducible refine zAW 37 ?_);refine zAE st1 rfl 37 rfl _ zEL ?_;intro b2 w2 st2;clear st1)
  |((with_reducible refine zBA 37 ?_);refine zAP rfl 37 _ rfl b1 0 32 rfl zBN _ _ _ (st2.at (i:=1) rfl) zBC (by rw[HS.out];decide) _ HK.out ?_)
  |((with_reducible refine zAN 37 ?_);refine zAA st2 rfl 37 _ _ rfl 0 b2 rfl (.agg (kv c.k)) rfl _ _ rfl (zAX Hk.out) (by show (kv c.k).size=_;rw[zAF,Hk.out,zAF];rfl) (zBJ _) _ rfl ?_;intro w4 st4;clear st2))
 exact zBX rfl b2 _ _ _ rfl (st4.at (i:=0) rfl) zBN.choose_spec.1 zBN.choose_spec.2 (zAX Hk.out) rfl ⟨rfl,st4.below⟩
theorem keyFn2_calls(c:Chg)(hk:c.k.length=32)(w:World) :
  Calls Tryz.prog 185 #[.agg (chc c).toArray] w fun e w'=>e=.returned (.agg (kv c.k))∧Below w.heap.size w w':=by
 have st:=St.init w;have Hk:=Lib.hid hk;have HK:=Lib.hid (chc_key c hk);have HS:=Lib.hid (zDS c hk);generalize (chc c).toArray=cc at *;go_enter Tryz.func185,Tryz.ntmps185
 go_wp2_with (first
  |(refine zAD st rfl 276 _ rfl cc rfl ?_;intro b1 w1 st1;clear st)
  |((with_reducible refine zAW 37 ?_);refine zAE st1 rfl 37 rfl _ zEL ?_;intro b2 w2 st2;clear st1)
  |((with_reducible refine zBA 37 ?_);refine zAP rfl 37 _ rfl b1 0 32 rfl zBN _ _ _ (st2.at (i:=1) rfl) zBC (by rw[HS.out];decide) _ HK.out ?_)
  |((with_reducible refine zAN 37 ?_);refine zAA st2 rfl 37 _ _ rfl 0 b2 rfl (.agg (kv c.k)) rfl _ _ rfl (zAX Hk.out) (by show (kv c.k).size=_;rw[zAF,Hk.out,zAF];rfl) (zBJ _) _ rfl ?_;intro w4 st4;clear st2))
 exact zBX rfl b2 _ _ _ rfl (st4.at (i:=0) rfl) zBN.choose_spec.1 zBN.choose_spec.2 (zAX Hk.out) rfl ⟨rfl,st4.below⟩
theorem mergeFn_calls(c:Chg)(hk:Key c.k)(k:List Nat)(hkk:Key k)(w:World) :
  Calls Tryz.prog 206 #[.agg (chc c).toArray,.agg (kv k)] w fun e w'=>e=.returned (.int .i64 (zDV c.k k))∧Below w.heap.size w w':=by
 have st:=St.init w;have Hk:=Lib.hid hkk.len;have HK:=Lib.hid (chc_key c hk.len);have HS:=Lib.hid (zDS c hk.len);have HC:=Lib.hid (fun wx=>Compare_calls c.k k hk hkk wx);generalize (chc c).toArray=cc at *;go_enter Tryz.func206,Tryz.ntmps206
 go_wp2_with (first
  |(refine zAD st rfl 276 _ rfl cc rfl ?_;intro b1 w1 st1;clear st)
  |(refine zAD st1 rfl 37 _ rfl (kv k) rfl ?_;intro b2 w2 st2;clear st1)
  |((with_reducible refine zBA 37 ?_);first
    |(refine zAP rfl 37 _ rfl b1 0 32 rfl zBN _ _ _ (st2.at (i:=1) rfl) zBC (by rw[HS.out];decide) _ HK.out ?_)
    |(refine zAC rfl 37 _ rfl b2 rfl _ zBF rfl _ _ (st2.at (i:=0) rfl) (zAX Hk.out) ?_))
  |(go_at_call 154;refine(HC.out _).mono ?_;rintro e w3 ⟨rfl,hb3⟩;have st3:=st2.call hb3;clear st2 hb3))
 go_ret;exact⟨rfl,st3.below⟩
end
end Go.Proofs.YtlcngapphloafaaGreatDoor
