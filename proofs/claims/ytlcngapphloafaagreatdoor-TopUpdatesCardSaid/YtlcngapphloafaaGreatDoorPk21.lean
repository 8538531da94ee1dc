/- Parts of the proof that are used by the claim: Ver2, Ver3, MItem, MRead, MParse, RSha1, RSha2, RSha3. No condition is added here. -/
import Derived.Test.YtlcngapphloafaaGreatDoorPk20
namespace Go.Proofs.YtlcngapphloafaaGreatDoor
section
set_option maxHeartbeats 4000000
open Go Go.RowKit
attribute [local irreducible] Inv.wpInv Mix.wpUp
def dgV(KK:List Int)(bits:Int)(lv:List Nat)(p:Bool):List Nat:=if p=true then zBE KK bits (2::lv) else zAH
theorem Supports_any(kd dp:Int)(lf bm k d:List Nat)(s:Value)(p:Bool)(hl:lf.length=64)(hlb:∀x∈lf,x<256)(hb:bm.length=32)(hk:Key k)(hd:d.length=32)(w:World) :
  Calls Tryz.prog 146 #[.agg (zAB kd dp lf bm s),.agg (kv k),.agg (kv d),.bool p] w fun e w'=>e=.returned (.bool (supF kd dp lf k d p))∧Below w.heap.size w w':=by
 cases p
 ·exact Supports_absent kd dp lf bm k d s hl hlb hb hk w
 ·exact Supports_present kd dp lf bm k d s hl hb hk.len hd w
theorem StH.old{w wx:World}{cb Kb:Nat}{m:Int}{L:List (Nat×Array Value×TypeId)}(st:StH w cb m L wx)(hlt:Kb<w.heap.size)(hne:Kb≠cb):wx.heap[Kb]?=w.heap[Kb]? :=
 (StH.grown st).block Kb hlt (fun e=>hne (Option.some.inj e))
section
variable {P:Program} {o:Oper} {a:Act}
theorem up_loadB{I:World→Prop}{F:Value→Prop}(ty:TypeId)(x:Operand)(ho:o.op=.load ty x)
  (b off n:Nat) (hx:a.eval x=.pointer (some ⟨b,off,none⟩)) (hagg:∃d,P.underlying ty=some d∧zGJ d=true) (hi:(P.info? ty).map (·.size)=some n) (l:List Nat) (hl:n≤l.length)
  (hc:∀w,I w→∀k,k<l.length→w.cell? ⟨b,off+k,none⟩=some (.int .u8 (l.getD k 0:Nat))) (hF:F (.agg (kv (l.take n)))):∃v,Mix.OpUp P I o a v∧F v:=by
 refine⟨_,fun w hw=>?_,hF⟩;unfold execOp;have hl:=zHL (P:=P) hagg hi hl (hc w hw);simp only[ho,hx,Instr.loadAt,Instr.sureAddr,Sem.run_bind,Sem.run_pure,Result.andThen_ok,hl,Mix.ResUp];exact⟨trivial,Below.refl _ _⟩
end
set_option maxRecDepth 20000 in
theorem supports_calls(KK:List Int)(r b s:Value)(p:Bool)(kd dp:Int)(lf bm kk lv:List Nat)(ka:Option Addr)(kc:Nat)(vs:Value)(hl:lf.length=64)(hlb:∀x∈lf,x<256)(hbm:bm.length=32)(hkk:Key kk)(hlv:∀x∈lv,x<256)(hln:lv.length≤1000000)
  (Kb hb cb:Nat) (bits c:Int) (w:World) (hh:HasH hb cb bits c w) (hB:0≤bits∧bits≤256) (hc : -4611686018427387904≤c∧c≤1000000) (hK:HasK KK w) (hks:RdB w (.slice ka 32 kc) kk) (hvs:RdB w vs lv) (hne:Kb≠cb)
  (hrow:w.heap[Kb]?=some (.cells (ckR (.pointer (some ⟨hb,0,none⟩)) r (.slice ka 32 kc) vs p b (zAB kd dp lf bm s)) 131 (0,0))) :
  Calls Tryz.prog 100 #[.pointer (some ⟨Kb,0,none⟩)] w fun e w'=>∃(c':Int),e=.returned (.bool (supF kd dp lf kk (dgV KK bits lv p) p))∧c≤c'∧c'≤c+1∧w.grownBy w' (some cb)∧HasH hb cb bits c' w':=by
 have HH:=Lib.hid hh;have HKK:=Lib.hid hK;have hlt:=zAG hrow;have HRow:Hid (∀m L wx,StH w cb m L wx→wx.heap[Kb]?=some (.cells (ckR (.pointer (some ⟨hb,0,none⟩)) r (.slice ka 32 kc) vs p b (zAB kd dp lf bm s)) 131 (0,0))):=fun m L wx st=>(StH.old st hlt hne).trans hrow
 have HC:Hid (∀m L wx,StH w cb m L wx→wx.cell? ⟨Kb,0,none⟩=some (.pointer (some ⟨hb,0,none⟩))∧wx.cell? ⟨Kb,2,none⟩=some (.slice ka 32 kc)∧wx.cell? ⟨Kb,3,none⟩=some vs∧wx.cell? ⟨Kb,4,none⟩=some (.bool p)):=fun m L wx st=>by
  have h:=HRow.out m L wx st;simp[World.cell?,h,ckR_0,ckR_2,ckR_3,ckR_4]
 have HPs:Hid ((zAB kd dp lf bm s).size=99):=zAO hl hbm;have HCs:Hid (6+99≤(ckR (.pointer (some ⟨hb,0,none⟩)) r (.slice ka 32 kc) vs p b (zAB kd dp lf bm s)).size):=by unfold Hid;rw[ckR_size,HPs.out];exact Nat.le_refl _
 have HCe:Hid ((ckR (.pointer (some ⟨hb,0,none⟩)) r (.slice ka 32 kc) vs p b (zAB kd dp lf bm s)).extract 6 (6+99)=zAB kd dp lf bm s):=ckR_proof HPs.out;have HSu:=Lib.hid (fun d hd wx=>Supports_any kd dp lf bm kk d s p hl hlb hbm hkk hd wx);have hkl:=Lib.hid hkk.len;have HKc0:Hid (∃kb ko,ka=some ⟨kb,ko,none⟩∧∀m L wx,StH w cb m L wx→∀i,i<kk.length→wx.cell? ⟨kb,ko+i,none⟩=some (.int .u8 (kk.getD i 0:Nat))):=by
  have hk32:=hkk.len;rcases hks.2 with ⟨h0,_⟩ | ⟨kb,ko,cap,he,_⟩
  ·rw[h0] at hk32;cases hk32
  ·injection he with he1 he2 he3
   refine⟨kb,ko,he1,fun m L wx st i hi=>?_⟩;rcases(StH.rd st hh hks).2 with ⟨h0,_⟩ | ⟨kb',ko',cap',he',hcc'⟩
   ·rw[h0] at hk32;cases hk32
   ·injection he' with h1 h2 h3
    rw[he1] at h1;injection h1 with h1;injection h1 with h1 h2 h3;subst h1 h2;exact hcc' i hi
 obtain⟨kb,ko,rfl,HKc'⟩:=HKc0.out;have HKc:=Lib.hid HKc';clear HKc' HKc0;have HV:=Lib.hid hvs;have Hlv:Hid (∀x∈2::lv,x<256):=fun x hx=>by
  rcases List.mem_cons.1 hx with rfl | hx
  ·decide
  ·exact hlv x hx
 have Hln:=Lib.hid hln;have HBc:=Lib.hid (⟨hB,hc⟩:(0≤bits∧bits≤256)∧(-4611686018427387904≤c∧c≤1000000));have hat:=arrayAtKey ⟨kb,ko,none⟩ kc;clear hh hK hrow hl hlb hbm hkk hlv hln hB hc hks hvs;generalize zAB kd dp lf bm s=pc at *;generalize hR:ckR (.pointer (some ⟨hb,0,none⟩)) r (.slice (some ⟨kb,ko,none⟩) 32 kc) vs p b pc=R at *;clear hR;have st:=St.init w;go_enter Tryz.func100,Tryz.ntmps100;go_upto_region 2 with (first
  |(refine zAE st rfl 38 rfl _ zCG ?_;intro b3 w1 st1;clear st))
 have st3:=StH.init HH.out st1;have hq:=HC.out _ _ _ st3
 go_upto_if 8 with fail
 go_cut [] from 9 to 19 (fun wx=>∃c',StH w cb c' [(b3,kv (dgV KK bits lv p),38)] wx∧c≤c'∧c'≤c+1)
 case first =>
  cases p
  ·go_wp2
   go_meet
   exact⟨c,st3,Int.le_refl _,by omega⟩
  ·go_upto_region 3 with (first | (fail "x"))
   refine Mix2.wp_region_mix (J:=fun wx=>∃m,StH w cb m [(b3,kv zAH,38)] wx) 11 (StH w cb c [(b3,kv zAH,38)]) zBL (by kernel_rfl) st3.drew ?_;intro F inv;refine Mix2.good_batch (f:=2) F St.up (fun _ h=>⟨_,h⟩) [0,1,2,3,4,5,6,7,8] _ _ inv (by kernel_rfl) ?_;clear inv st3 hq;have q:∀wx,(∃m,StH w cb m [(b3,kv zAH,38)] wx)→wx.cell? ⟨Kb,0,none⟩=some (.pointer (some ⟨hb,0,none⟩))∧wx.cell? ⟨Kb,3,none⟩=some vs:=fun wx h=>⟨(HC.out _ _ _ h.choose_spec).1,(HC.out _ _ _ h.choose_spec).2.2.1⟩
   iterate 9
    (refine Mix.wpUp_cons rfl (fun K hK=>?_);go_simp;apply zAU;· (intro wx hw;have q1:=q wx hw;go_simp;(try go_ints);(try go_simp);(try (rw[if_pos (by omega)]));(try go_simp);(first | done | rfl))
     refine hK _ ?_;clear hK K)
   refine Mix.wpUp_nil ?_;intro inv;refine Mix2.good_one (i:=9) (f:=1) (by kernel_rfl) inv (fun w3 st3=>?_);clear inv;refine zAT rfl rfl 145 #[vs] (by go_simp) ?_;refine(Value_calls lv vs w3 (by have:=Hln.out;omega) (StH.rd st3 HH.out HV.out)).mono ?_;rintro e w4 ⟨v4,rfl,hv4,hbel⟩;refine⟨v4,rfl,fun wx=>StH w cb c [(b3,kv zAH,38)] wx∧RdB wx v4 (2::lv),?_,⟨st3.call hbel,hv4⟩,fun _ h=>⟨_,h.1⟩,fun inv=>?_⟩
   ·exact fun wx wy h hb=>⟨St.call h.1 hb,h.2.call hb⟩
   clear st3 hbel hv4;refine Mix2.good_one (i:=10) (f:=0) (by kernel_rfl) inv (fun w5 st5=>?_);clear inv;obtain⟨st5,hv5⟩:=st5;refine zAT rfl rfl 82 #[.pointer (some ⟨hb,0,none⟩),v4] (by go_simp) ?_;refine(zHQ KK (2::lv) v4 hb cb bits c w5 (StH.has st5 HH.out) HBc.out.1 (by have:=HBc.out.2;omega) Hlv.out (by have:=Hln.out;simp;omega) hv5 (StH.hasK st5 HH.out HKK.out)).mono ?_;rintro e w6 ⟨rfl,hg6,hh6⟩;have Hd:=Lib.hid (zBG KK bits (2::lv)).len;generalize hdd:zBE KK bits (2::lv)=d at *;have HDD:=Lib.hid hdd;clear hdd;refine⟨_,rfl,StH w cb (c+1) [(b3,kv zAH,38)],St.up,StH.sum st5 HH.out hg6 hh6,fun _ h=>⟨_,h⟩,fun inv=>?_⟩;clear st5 hv5 hg6 hh6 inv F;refine⟨by kernel_rfl,fun w9 st9=>?_⟩;simp only[List.drop_succ_cons,List.drop_zero]
   go_wp2_with (first
    |(refine zAA st9 rfl 38 _ _ rfl 0 b3 rfl (.agg (kv d)) rfl _ _ rfl (zCA Hd.out) (by show (kv d).size=_;rw[zAF,Hd.out,zAF];rfl) (zBJ _) _ rfl ?_;intro w7 st7;clear st9))
   go_meet
   have e:dgV KK bits lv true=d:=HDD.out;rw[e];exact⟨c+1,st7,by omega,Int.le_refl _⟩
 case rest =>
 clear st3 hq;obtain⟨c',st3,hc1,hc2⟩:=hcut;have hdl:(dgV KK bits lv p).length=32:=by
  unfold dgV
  split
  ·exact(zBG KK bits (2::lv)).len
  ·rfl
 generalize hD:(dgV KK bits lv p)=d at *;have HD:=Lib.hid hD;clear hD;go_upto_region 4 with (first | (fail "x"))
 have Hd:=Lib.hid hdl;have HSu2:=Lib.hid (HSu.out d hdl);clear hdl HSu;refine Mix2.wp_region_mix (J:=fun wx=>StH w cb c' [(b3,kv d,38)] wx) 18 (StH w cb c' [(b3,kv d,38)]) zBL (by kernel_rfl) st3.drew ?_;intro F inv;refine Mix2.good_batch (f:=1) F St.up (fun _ h=>h) [0,1,2,3,4,5,6,7,8,9,10,11,12,13,14,15,16] _ _ inv (by kernel_rfl) ?_;clear inv st3;have q:∀wx,StH w cb c' [(b3,kv d,38)] wx→wx.cell? ⟨Kb,2,none⟩=some (.slice (some ⟨kb,ko,none⟩) 32 kc)∧wx.cell? ⟨Kb,4,none⟩=some (.bool p):=fun wx h=>⟨(HC.out _ _ _ h).2.1,(HC.out _ _ _ h).2.2.2⟩
 iterate 3
  (refine Mix.wpUp_cons rfl (fun K hK=>?_);go_simp;apply zAU;· (intro wx hw;have q1:=q wx hw;go_simp;(try go_ints);(try go_simp);(try (rw[if_pos (by omega)]));(try go_simp);(first | done | rfl))
   refine hK _ ?_;clear hK K)
 (refine Mix.wpUp_cons rfl (fun K hK=>?_);go_simp;refine zHS 43 _ rfl Kb 6 99 rfl zGE _ _ (fun wx hw=>HRow.out _ _ _ hw) (by have h:=zAQ HPs.out;rwa [HPs.out] at h) HCs.out _ HCe.out ?_
  refine hK _ ?_;clear hK K)
 iterate 6
  (refine Mix.wpUp_cons rfl (fun K hK=>?_);go_simp;apply zAU;· (intro wx hw;have q1:=q wx hw;go_simp;(try go_ints);(try go_simp);(try (rw[if_pos (by omega)]));(try go_simp);(first | done | rfl))
   refine hK _ ?_;clear hK K)
 (refine Mix.wpUp_cons rfl (fun K hK=>?_);go_simp;refine up_loadB 37 _ rfl kb ko 32 rfl zBN zBC kk (by rw[hkl.out];exact Nat.le_refl _) (fun wx hw=>HKc.out _ _ _ hw) ?_;rw[List.take_of_length_le (Nat.le_of_eq hkl.out)]
  refine hK _ ?_;clear hK K)
 (refine Mix.wpUp_cons rfl (fun K hK=>?_);go_simp;refine zFB 38 _ rfl b3 rfl _ zEE rfl _ _ (fun wx hw=>hw.at (i:=0) rfl) (zCA Hd.out) ?_
  refine hK _ ?_;clear hK K)
 iterate 5
  (refine Mix.wpUp_cons rfl (fun K hK=>?_);go_simp;apply zAU;· (intro wx hw;have q1:=q wx hw;go_simp;(try go_ints);(try go_simp);(try (rw[if_pos (by omega)]));(try go_simp);(first | done | rfl))
   refine hK _ ?_;clear hK K)
 refine Mix.wpUp_nil ?_;intro inv;refine Mix2.good_one (i:=17) (f:=0) (by kernel_rfl) inv (fun w3 st3=>?_);clear inv;refine zAT rfl rfl 146 #[.agg pc,.agg (kv kk),.agg (kv d),.bool p] (by go_simp) ?_;refine(HSu2.out w3).mono ?_;rintro e w4 ⟨rfl,hbel⟩;refine⟨_,rfl,StH w cb c' [(b3,kv d,38)],St.up,st3.call hbel,fun _ h=>h,fun inv=>?_⟩;clear st3 hbel inv F;have Hres:Hid (supF kd dp lf kk (dgV KK bits lv p) p=supF kd dp lf kk d p):=by unfold Hid;rw[HD.out]
 generalize supF kd dp lf kk d p=res at *;refine⟨by kernel_rfl,fun w9 st9=>?_⟩;simp only[List.drop_succ_cons,List.drop_zero];go_wp2;go_ret;exact⟨c',by rw[Hres.out];rfl,hc1,hc2,StH.grown st9,StH.has st9 HH.out⟩
end
section
set_option maxHeartbeats 4000000
open Go Go.RowKit
attribute [local irreducible] Inv.wpInv Mix.wpUp
theorem arrayAtDig(a:Addr)(cap:Nat)(w:World):(Instr.arrayAt 38 (.slice (some a) 32 cap)).run Tryz.prog w=.ok (.pointer (some a)) w:=by kernel_rfl
theorem RdB.far{w:World}{hb cb:Nat}{bits c:Int}{a:Option Addr}{n cap:Nat}{l:List Nat}(hh:HasH hb cb bits c w)(h:RdB w (.slice a n cap) l)(hl:0<l.length) :
  ∃kb ko,a=some ⟨kb,ko,none⟩∧∀m L wx,StH w cb m L wx→∀i,i<l.length→wx.cell? ⟨kb,ko+i,none⟩=some (.int .u8 (l.getD i 0:Nat)):=by
 rcases h.2 with ⟨h0,_⟩ | ⟨kb,ko,cap,he,_⟩
 ·rw[h0] at hl;exact absurd hl (by decide)
 ·injection he with he1 he2 he3
  refine⟨kb,ko,he1,fun m L wx st i hi=>?_⟩;rcases(StH.rd st hh h).2 with ⟨h0,_⟩ | ⟨kb',ko',cap',he',hcc'⟩
  ·rw[h0] at hl;exact absurd hl (by decide)
  ·injection he' with h1 h2 h3
   rw[he1] at h1;injection h1 with h1;injection h1 with h1 h2 h3;subst h1 h2;exact hcc' i hi
section
variable {P:Program} {ops:Array Oper} {B:Nat} {w0 w:World} {L:List (Nat×Array Value×TypeId)} {a:Act}
theorem mxOp_storeR(st:St B w0 L w){j:Nat}{o:Oper}{K:Act→World→Prop}(hi0:ops[j]?=some o)(hw:Region.wanted o (yielded ops a.tmps)=true)(ty:TypeId)(x y:Operand)(ho:o.op=.store ty x y)
  (i:Nat) (b:Nat) (hx:a.eval x=.pointer (some ⟨b,0,none⟩)) (v:Value) (hy:a.eval y=v) (old:Array Value) (t:TypeId) (hL:L[i]?=some (b,old,t))
  (hi:(P.info? ty).map (·.size)=some v.cells.size) (hs:v.cells.size=old.size) (h1:∀u∈v.cells.toList,u.oneCell'=true)
  (L':List (Nat×Array Value×TypeId)) (hL':L.set i (b,v.cells,t)=L')
  (h:∀w1,St B w0 L' w1→K (a.put o.dst undef) w1):Mix.mxOp P ops j K a w:=by
 refine Mix.mxOp_go hi0 hw ?_;unfold Oper.wp execOp;simp only[ho,hx,hy,Instr.storeAt,Instr.sureAddr,Sem.run_bind,Sem.run_pure,Result.andThen_ok,zIE w b t ty old v (st.at hL) hi hs h1,Oper.upon];exact h _ (st.put hL _ hL')
end
theorem inv_loadB{P:Program}{o:Oper}{a:Act}{I:World→Prop}{F:Value→Prop}(ty:TypeId)(x:Operand)(ho:o.op=.load ty x)
  (b off n:Nat) (hx:a.eval x=.pointer (some ⟨b,off,none⟩)) (hagg:∃d,P.underlying ty=some d∧zGJ d=true) (hi:(P.info? ty).map (·.size)=some n) (l:List Nat) (hl:n≤l.length)
  (hc:∀w,I w→∀k,k<l.length→w.cell? ⟨b,off+k,none⟩=some (.int .u8 (l.getD k 0:Nat))) (hF:F (.agg (kv (l.take n)))):∃v,Inv.OpInv P I o a v∧F v:=by
 refine⟨_,fun w hw=>?_,hF⟩;unfold execOp;have hl:=zHL (P:=P) hagg hi hl (hc w hw);simp only[ho,hx,Instr.loadAt,Instr.sureAddr,Sem.run_bind,Sem.run_pure,Result.andThen_ok,hl];exact⟨rfl,hw⟩
set_option maxRecDepth 20000 in
theorem leads_calls(KK:List Int)(b:Value)(p:Bool)(kd:Int)(dp:Nat)(lf bm sib kk rr:List Nat)(ra ka av:Option Addr)(rc kc n cv:Nat)(vs:Value)(hl:lf.length=64)(hlb:∀x∈lf,x<256)(hbm:Key bm)(hkk:Key kk)(hrr:rr.length=32)(hsb:∀x∈sib,x<256)(hck:zGV kd dp lf bm n=0)
  (Kb hb cb:Nat) (bits c:Int) (w:World) (hh:HasH hb cb bits c w) (hB:0≤bits∧bits≤256) (hc : -4611686018427387904≤c∧c≤1000000) (hK:HasK KK w) (hks:RdB w (.slice ka 32 kc) kk) (hrs:RdB w (.slice ra 32 rc) rr) (hs:RdD w (.slice av n cv) n sib) (hne:Kb≠cb)
  (hrow:w.heap[Kb]?=some (.cells (ckR (.pointer (some ⟨hb,0,none⟩)) (.slice ra 32 rc) (.slice ka 32 kc) vs p b (zAB kd dp lf bm (.slice av n cv))) 131 (0,0))) :
  Calls Tryz.prog 102 #[.pointer (some ⟨Kb,0,none⟩)] w fun e w'=>e=.returned (.bool (decide (belF KK bits (endF kd lf) kk (expF (zBE KK bits [3]) dp (setB bm) sib) dp dp=rr)))∧w.grownBy w' (some cb)∧HasH hb cb bits (c+2+dp) w':=by
 have HH:=Lib.hid hh;have HKK:=Lib.hid hK;have hlt:=zAG hrow;have HRow:Hid (∀m L wx,StH w cb m L wx→wx.heap[Kb]?=some (.cells (ckR (.pointer (some ⟨hb,0,none⟩)) (.slice ra 32 rc) (.slice ka 32 kc) vs p b (zAB kd dp lf bm (.slice av n cv))) 131 (0,0))):=fun m L wx st=>(StH.old st hlt hne).trans hrow
 have HC:Hid (∀m L wx,StH w cb m L wx→wx.cell? ⟨Kb,0,none⟩=some (.pointer (some ⟨hb,0,none⟩))∧wx.cell? ⟨Kb,1,none⟩=some (.slice ra 32 rc)∧wx.cell? ⟨Kb,2,none⟩=some (.slice ka 32 kc)):=fun m L wx st=>by
  have h:=HRow.out m L wx st;simp[World.cell?,h,ckR_0,ckR_1,ckR_2]
 have HPs:Hid ((zAB kd dp lf bm (.slice av n cv)).size=99):=zAO hl hbm.len;have HCs:Hid (6+99≤(ckR (.pointer (some ⟨hb,0,none⟩)) (.slice ra 32 rc) (.slice ka 32 kc) vs p b (zAB kd dp lf bm (.slice av n cv))).size):=by unfold Hid;rw[ckR_size,HPs.out];exact Nat.le_refl _
 have HCe:Hid ((ckR (.pointer (some ⟨hb,0,none⟩)) (.slice ra 32 rc) (.slice ka 32 kc) vs p b (zAB kd dp lf bm (.slice av n cv))).extract 6 (6+99)=zAB kd dp lf bm (.slice av n cv)):=ckR_proof HPs.out;have HE:=Lib.hid (fun wx h1 h2 h3=>Root_calls KK kd dp lf bm sib kk av n cv hl hlb hbm hkk hsb hck hb cb bits c wx h1 hB hc h2 h3);have Hbl:=Lib.hid (belF_key KK bits (endF kd lf) kk (expF (zBE KK bits [3]) dp (setB bm) sib) dp dp).len;obtain⟨kb,ko,rfl,HKc'⟩:=RdB.far hh hks (by rw[hkk.len];decide);obtain⟨rb,ro,rfl,HRc'⟩:=RdB.far hh hrs (by rw[hrr];decide);have HKc:=Lib.hid HKc';have HRc:=Lib.hid HRc';have hkl:=Lib.hid hkk.len;have hrl:=Lib.hid hrr;have HRd:=Lib.hid hs;have hat:=arrayAtKey ⟨kb,ko,none⟩ kc;have hat2:=arrayAtDig ⟨rb,ro,none⟩ rc;have hg:=guardDig;clear HKc' HRc' hh hK hrow hl hlb hbm hkk hB hc hks hrs hs hsb hck hrr;generalize belF KK bits (endF kd lf) kk (expF (zBE KK bits [3]) dp (setB bm) sib) dp dp=d at *;generalize zAB kd dp lf bm (.slice av n cv)=pc at *;generalize hR:ckR (.pointer (some ⟨hb,0,none⟩)) (.slice (some ⟨rb,ro,none⟩) 32 rc) (.slice (some ⟨kb,ko,none⟩) 32 kc) vs p b pc=R at *;clear hR;have hq:=eqlDig d rr Hbl.out hrl.out
 have st:=St.init w;have st0:=StH.init HH.out st;clear st;go_enter Tryz.func102,Tryz.ntmps102;go_upto_region 1 with (first | (fail "x"))
 go_cut [3,4] from 5 to 23 (fun s3 s4 wx=>∃b3,s3=.pointer (some ⟨b3,0,none⟩)∧s4=.int .i64 0∧StH w cb (c+2+dp) [(b3,kv d,38)] wx)
 case first =>
  refine Mix2.wp_region_mix (J:=fun wx=>∃m L,StH w cb m L wx) 21 (StH w cb c []) zBL (by kernel_rfl) st0.drew ?_;intro F inv;refine Mix2.good_batch (f:=6) F St.up (fun _ h=>⟨_,_,h⟩) [0,1,2,3,4,5,6,7,8,9,10,11,12,13,14] _ _ inv (by kernel_rfl) ?_;clear inv st0;have q:∀wx,(∃m L,StH w cb m L wx)→wx.cell? ⟨Kb,0,none⟩=some (.pointer (some ⟨hb,0,none⟩))∧wx.cell? ⟨Kb,2,none⟩=some (.slice (some ⟨kb,ko,none⟩) 32 kc):=fun wx h=>by
   obtain⟨m,L,h⟩:=h;exact⟨(HC.out _ _ _ h).1,(HC.out _ _ _ h).2.2⟩
  iterate 4
   (refine Mix.wpUp_cons rfl (fun K hK=>?_);go_simp;apply zAU;· (intro wx hw;have q1:=q wx hw;go_simp;(try go_ints);(try go_simp);(try (rw[if_pos (by omega)]));(try go_simp);(first | done | rfl))
    refine hK _ ?_;clear hK K)
  iterate 3
   (refine Mix.wpUp_cons rfl (fun K hK=>?_);go_simp;apply zAU;· (intro wx hw;have q1:=q wx hw;go_simp;(try go_ints);(try go_simp);(try (rw[if_pos (by omega)]));(try go_simp);(first | done | rfl))
    refine hK _ ?_;clear hK K)
  (refine Mix.wpUp_cons rfl (fun K hK=>?_);go_simp;refine zHS 43 _ rfl Kb 6 99 rfl zGE _ _ (fun wx hw=>HRow.out _ _ _ hw.choose_spec.choose_spec) (by have h:=zAQ HPs.out;rwa [HPs.out] at h) HCs.out _ HCe.out ?_
   refine hK _ ?_;clear hK K)
  iterate 6
   (refine Mix.wpUp_cons rfl (fun K hK=>?_);go_simp;apply zAU;· (intro wx hw;have q1:=q wx hw;go_simp;(try go_ints);(try go_simp);(try (rw[if_pos (by omega)]));(try go_simp);(first | done | rfl))
    refine hK _ ?_;clear hK K)
  (refine Mix.wpUp_cons rfl (fun K hK=>?_);go_simp;refine up_loadB 37 _ rfl kb ko 32 rfl zBN zBC kk (by rw[hkl.out];exact Nat.le_refl _) (fun wx hw=>HKc.out _ _ _ hw.choose_spec.choose_spec) ?_;rw[List.take_of_length_le (Nat.le_of_eq hkl.out)]
   refine hK _ ?_;clear hK K)
  refine Mix.wpUp_nil ?_;intro inv;refine Mix2.good_two (i:=15) (k:=19) (f:=5) (by kernel_rfl) inv (fun w5 st5=>?_) (fun w5 st5=>?_)
  ·clear inv q
   refine zAT rfl rfl 19 #[.pointer (some ⟨hb,0,none⟩),.agg pc,.agg (kv kk)] (by go_simp) ?_;refine(HE.out _ (StH.has st5 HH.out) (StH.hasK st5 HH.out HKK.out) (HRd.out.turn HH.out.c (StH.grown st5))).mono ?_;rintro e w6 ⟨rfl,hg6,hh6⟩;refine⟨_,rfl,StH w cb (c+2+dp) [],St.up,StH.sum st5 HH.out hg6 hh6,fun _ h=>⟨_,_,h⟩,fun inv=>?_⟩;clear st5 hg6 hh6;refine Mix2.good_batch (f:=2) F St.up (fun _ h=>⟨_,_,h⟩) [16,17,18] _ _ inv (by kernel_rfl) ?_;clear inv
   iterate 3
    (refine Mix.wpUp_cons rfl (fun K hK=>?_);go_simp;apply zAU;· (intro wx hw;go_simp;(try go_ints);(try go_simp);(try (rw[if_pos (by omega)]));(try go_simp);(first | done | rfl))
     refine hK _ ?_;clear hK K)
   refine Mix.wpUp_nil ?_;intro inv;refine Mix2.good_one (i:=19) (f:=1) (by kernel_rfl) inv (fun w7 st7=>?_);clear inv;refine mxOp_newA st7 rfl rfl 38 rfl _ zCG (fun b3 w8 st8=>?_);refine⟨_,St.up,st8,fun _ h=>⟨_,_,h⟩,fun inv=>?_⟩;clear st7 st8;refine Mix2.good_one (i:=20) (f:=0) (by kernel_rfl) inv (fun w9 st9=>?_);clear inv;refine mxOp_storeR st9 rfl rfl 38 _ _ rfl 0 b3 rfl (.agg (kv d)) rfl _ _ rfl (zCA Hbl.out) (by show (kv d).size=_;rw[zAF,Hbl.out,zAF];rfl) (zBJ _) _ rfl (fun w10 st10=>?_);refine⟨_,St.up,st10,fun _ h=>⟨_,_,h⟩,fun inv=>?_⟩;clear st9 st10 inv F;refine⟨by kernel_rfl,fun w10 st10=>?_⟩;simp only[List.drop_succ_cons,List.drop_zero];go_wp2
   go_meet
   exact⟨b3,rfl,rfl,st10⟩
  ·clear inv q
   refine mxOp_newA st5 rfl rfl 38 rfl _ zCG (fun b3 w6 st6=>?_);refine⟨_,St.up,st6,fun _ h=>⟨_,_,h⟩,fun inv=>?_⟩;clear st5 st6;refine Mix2.good_one (i:=15) (f:=4) (by kernel_rfl) inv (fun w6 st6=>?_);clear inv;refine zAT rfl rfl 19 #[.pointer (some ⟨hb,0,none⟩),.agg pc,.agg (kv kk)] (by go_simp) ?_;refine(HE.out _ (StH.has st6 HH.out) (StH.hasK st6 HH.out HKK.out) (HRd.out.turn HH.out.c (StH.grown st6))).mono ?_;rintro e w7 ⟨rfl,hg7,hh7⟩;refine⟨_,rfl,StH w cb (c+2+dp) [(b3,kv zAH,38)],St.up,StH.sum st6 HH.out hg7 hh7,fun _ h=>⟨_,_,h⟩,fun inv=>?_⟩;clear st6 hg7 hh7;refine Mix2.good_batch (f:=1) F St.up (fun _ h=>⟨_,_,h⟩) [16,17,18] _ _ inv (by kernel_rfl) ?_;clear inv
   iterate 3
    (refine Mix.wpUp_cons rfl (fun K hK=>?_);go_simp;apply zAU;· (intro wx hw;go_simp;(try go_ints);(try go_simp);(try (rw[if_pos (by omega)]));(try go_simp);(first | done | rfl))
     refine hK _ ?_;clear hK K)
   refine Mix.wpUp_nil ?_;intro inv;refine Mix2.good_one (i:=20) (f:=0) (by kernel_rfl) inv (fun w9 st9=>?_);clear inv;refine mxOp_storeR st9 rfl rfl 38 _ _ rfl 0 b3 rfl (.agg (kv d)) rfl _ _ rfl (zCA Hbl.out) (by show (kv d).size=_;rw[zAF,Hbl.out,zAF];rfl) (zBJ _) _ rfl (fun w10 st10=>?_);refine⟨_,St.up,st10,fun _ h=>⟨_,_,h⟩,fun inv=>?_⟩;clear st9 st10 inv F;refine⟨by kernel_rfl,fun w10 st10=>?_⟩;simp only[List.drop_succ_cons,List.drop_zero];go_wp2
   go_meet
   exact⟨b3,rfl,rfl,st10⟩
 case rest =>
 clear st0;obtain⟨b3,rfl,rfl,st3⟩:=hcut;go_upto_region 2 with (first | (fail "x"))
 cases hdr:decide (d=rr)
 ·rw[hdr] at hq
  refine zBH 12 st3 zBL (by kernel_rfl) ?_;intro I hI hI';have q:∀wx,I wx→wx.cell? ⟨Kb,1,none⟩=some (.slice (some ⟨rb,ro,none⟩) 32 rc):=fun wx hw=>(HC.out _ _ _ (hI wx hw)).2.1
  simp only[List.take_succ_cons,List.take_zero,List.drop_succ_cons,List.drop_zero]
  iterate 3
   (refine Inv.wpInv_step (fun K hK=>?_);go_simp;apply zAL;· (intro wx hw;go_simp;(try go_ints);(try go_simp);(try (rw[if_pos (by omega)]));(try go_simp);(first | done | rfl))
    refine hK _ ?_;clear hK K)
  (refine Inv.wpInv_step (fun K hK=>?_);go_simp;refine zDP 38 _ rfl b3 rfl _ zEE rfl _ _ (fun wx hw=>(hI wx hw).at (i:=0) rfl) (zCA Hbl.out) ?_
   refine hK _ ?_;clear hK K)
  iterate 5
   (refine Inv.wpInv_step (fun K hK=>?_);go_simp;apply zAL;· (intro wx hw;have q1:=q wx hw;go_simp;(try go_ints);(try go_simp);(try (rw[if_pos (by omega)]));(try go_simp);(first | done | rfl))
    refine hK _ ?_;clear hK K)
  (refine Inv.wpInv_step (fun K hK=>?_);go_simp;refine inv_loadB 38 _ rfl rb ro 32 rfl zFZ zBV rr (by rw[hrl.out];exact Nat.le_refl _) (fun wx hw=>HRc.out _ _ _ (hI wx hw)) ?_;rw[List.take_of_length_le (Nat.le_of_eq hrl.out)]
   refine hK _ ?_;clear hK K)
  iterate 2
   (refine Inv.wpInv_step (fun K hK=>?_);go_simp;apply zAL;· (intro wx hw;go_simp;(try go_ints);(try go_simp);(try (rw[if_pos (by omega)]));(try go_simp);(first | done | rfl))
    refine hK _ ?_;clear hK K)
  clear q hI hI';refine Inv.wpInv_nil ?_;intro w4 st4;clear st3;go_wp2;go_ret;exact⟨by rw[hdr];rfl,StH.grown st4,StH.has st4 HH.out⟩
 ·rw[hdr] at hq
  refine zBH 12 st3 zBL (by kernel_rfl) ?_;intro I hI hI';have q:∀wx,I wx→wx.cell? ⟨Kb,1,none⟩=some (.slice (some ⟨rb,ro,none⟩) 32 rc):=fun wx hw=>(HC.out _ _ _ (hI wx hw)).2.1
  simp only[List.take_succ_cons,List.take_zero,List.drop_succ_cons,List.drop_zero]
  iterate 3
   (refine Inv.wpInv_step (fun K hK=>?_);go_simp;apply zAL;· (intro wx hw;go_simp;(try go_ints);(try go_simp);(try (rw[if_pos (by omega)]));(try go_simp);(first | done | rfl))
    refine hK _ ?_;clear hK K)
  (refine Inv.wpInv_step (fun K hK=>?_);go_simp;refine zDP 38 _ rfl b3 rfl _ zEE rfl _ _ (fun wx hw=>(hI wx hw).at (i:=0) rfl) (zCA Hbl.out) ?_
   refine hK _ ?_;clear hK K)
  iterate 5
   (refine Inv.wpInv_step (fun K hK=>?_);go_simp;apply zAL;· (intro wx hw;have q1:=q wx hw;go_simp;(try go_ints);(try go_simp);(try (rw[if_pos (by omega)]));(try go_simp);(first | done | rfl))
    refine hK _ ?_;clear hK K)
  (refine Inv.wpInv_step (fun K hK=>?_);go_simp;refine inv_loadB 38 _ rfl rb ro 32 rfl zFZ zBV rr (by rw[hrl.out];exact Nat.le_refl _) (fun wx hw=>HRc.out _ _ _ (hI wx hw)) ?_;rw[List.take_of_length_le (Nat.le_of_eq hrl.out)]
   refine hK _ ?_;clear hK K)
  iterate 2
   (refine Inv.wpInv_step (fun K hK=>?_);go_simp;apply zAL;· (intro wx hw;go_simp;(try go_ints);(try go_simp);(try (rw[if_pos (by omega)]));(try go_simp);(first | done | rfl))
    refine hK _ ?_;clear hK K)
  clear q hI hI';refine Inv.wpInv_nil ?_;intro w4 st4;clear st3;go_wp2;go_ret;exact⟨by rw[hdr];rfl,StH.grown st4,StH.has st4 HH.out⟩
end
section
open Go Go.RowKit
attribute [local irreducible] Inv.wpInv Mix.wpUp
theorem addPlain2(b off n:Nat):(⟨b,off,none⟩:Addr).add n=⟨b,off+n,none⟩:=by unfold Addr.add;split<;>simp_all
end
section
open Go Go.RowKit
attribute [local irreducible] Inv.wpInv Mix.wpUp
end
section
open Go Go.RowKit
attribute [local irreducible] Inv.wpInv Mix.wpUp
section
variable {P:Program} {ops:Array Oper} {Q:Exit→Act→World→Prop} {rest:List Oper} {a:Act} {w:World}
theorem zBA(t:TypeId){x:Operand}{d:Option Tmp}{ty:TypeId}{pos:String}{af:Array Edge}{g:Option (Nat×Bool)}(h:wpList P ops Q ({dst:=d,op:=.load t x,type:=ty,pos:=pos,after:=af,guard:=g}::rest) a w):wpList P ops Q ({dst:=d,op:=.load t x,type:=ty,pos:=pos,after:=af,guard:=g}::rest) a w:=h
theorem zAW(t:TypeId){d:Option Tmp}{ty:TypeId}{pos:String}{af:Array Edge}{g:Option (Nat×Bool)}(h:wpList P ops Q ({dst:=d,op:=.alloc t,type:=ty,pos:=pos,after:=af,guard:=g}::rest) a w):wpList P ops Q ({dst:=d,op:=.alloc t,type:=ty,pos:=pos,after:=af,guard:=g}::rest) a w:=h
theorem zAN(t:TypeId){x y:Operand}{d:Option Tmp}{ty:TypeId}{pos:String}{af:Array Edge}{g:Option (Nat×Bool)}(h:wpList P ops Q ({dst:=d,op:=.store t x y,type:=ty,pos:=pos,after:=af,guard:=g}::rest) a w):wpList P ops Q ({dst:=d,op:=.store t x y,type:=ty,pos:=pos,after:=af,guard:=g}::rest) a w:=h
theorem zBP(t:TypeId){n:Nat}{ps:Array (Nat×Operand)}{d:Option Tmp}{ty:TypeId}{pos:String}{af:Array Edge}{g:Option (Nat×Bool)}(h:wpList P ops Q ({dst:=d,op:=.buildSlice t n ps,type:=ty,pos:=pos,after:=af,guard:=g}::rest) a w):wpList P ops Q ({dst:=d,op:=.buildSlice t n ps,type:=ty,pos:=pos,after:=af,guard:=g}::rest) a w:=h
theorem zEG(t:TypeId){ps:Array (Nat×Operand)}{d:Option Tmp}{ty:TypeId}{pos:String}{af:Array Edge}{g:Option (Nat×Bool)}(h:wpList P ops Q ({dst:=d,op:=.build t ps,type:=ty,pos:=pos,after:=af,guard:=g}::rest) a w):wpList P ops Q ({dst:=d,op:=.build t ps,type:=ty,pos:=pos,after:=af,guard:=g}::rest) a w:=h
end
end
section
set_option maxHeartbeats 1000000
open Go Go.RowKit
attribute [local irreducible] Inv.wpInv Mix.wpUp
def zHG(x:Int)(n:Nat):Int:=or32 (x / 2^n) (IntKind.u32.wrap (x*2^(32 - n)))
theorem turn_calls(x:Int)(n:Nat)(h0:0<n)(h1:n<32)(w:World):Calls Tryz.prog 132 #[.int .u32 x,.int .u64 (n:Nat)] w fun e w'=>e=.returned (.int .u32 (zHG x n))∧w'=w:=by
 have hn0:(0:Int)<(n:Nat):=by omega
 have hn1:((n:Nat):Int)<32:=by omega
 have HP:Hid (∀r,r=or32 (x / 2^n) (IntKind.u32.wrap (x*2^(32 - n)))→Ending.returned (Value.int .u32 r)=.returned (.int .u32 (zHG x n))):=fun r hr=>by rw[hr];rfl
 go_enter Tryz.func132,Tryz.ntmps132;go_wp2;go_ret;exact⟨HP.out _ rfl,rfl⟩
def zAK:List Int:=[1116352408,1899447441,3049323471,3921009573,961987163,1508970993,2453635748,2870763221,3624381080,310598401,607225278,1426881987,1925078388,2162078206,2614888103,3248222580,3835390401,4022224774,264347078,604807628,770255983,1249150122,1555081692,1996064986,2554220882,2821834349,2952996808,3210313671,3336571891,3584528711,113926993,338241895,666307205,773529912,1294757372,1396182291,1695183700,1986661051,2177026350,2456956037,2730485921,2820302411,3259730800,3345764771,3516065817,3600352804,4094571909,275423344,430227734,506948616,659060556,883997877,958139571,1322822218,1537002063,1747873779,1955562222,2024104815,2227730452,2361852424,2428436474,2756734187,3204031479,3329325298]
def primesP:List (Nat×Value):=(List.range 64).zip (zAK.map (Value.int .u32))
theorem fillPrimes:Instr.fill (fun i=>some (i*1,1)) ((Array.range (64*1)).map ((Value.int .u32 0).cells[·%(Value.int .u32 0).cells.size]!)) primesP=some (uv zAK):=by kernel_rfl
theorem zeroU32:(Tryz.prog.info? 243).bind (·.zero)=some (.int .u32 0):=by kernel_rfl
theorem sliceU32:Tryz.prog.underlying 245=some (.slice 243):=by kernel_rfl
theorem primes_calls(w:World):Calls Tryz.prog 129 #[] w fun e w'=>(∃b,e=.returned (.slice (some ⟨b,0,none⟩) 64 64)∧w.heap.size≤b∧w'.heap[b]?=some (.cells (uv zAK) 243 (0,0)))∧Below w.heap.size w w':=by
 have st:=St.init w;go_enter Tryz.func129,Tryz.ntmps129
 go_wp2_with (first
  |((with_reducible refine zBP 245 ?_);refine zAR st rfl 245 64 _ rfl 243 sliceU32 _ 1 zeroU32 zID (by decide) (by decide) primesP ?_ _ fillPrimes ?_;(·first | rfl | (kernel_rfl));intro b w1 st1 _;clear st))
 go_ret;exact⟨⟨b,rfl,st1.above (i:=0) rfl,st1.at (i:=0) rfl⟩,st1.below⟩
def zFL(l:List Nat):Nat:=(119 - l.length%64)%64
def lenB(n:Nat)(i:Nat):List Nat:=(List.range i).map fun j=>n*8 / 2^(56 - 8*j)%256
theorem lenB_succ(n i:Nat):lenB n (i+1)=lenB n i++[n*8 / 2^(56 - 8*i)%256]:=by unfold lenB;rw[List.range_succ,List.map_append];rfl
def lenOf:Value→Nat
 |.slice _ n _=>n
 |_=>0
theorem zDN{w:World}{base n size:Nat}{e:TypeId}{v:Value}{xs:List Value}(h:w.ownsRow base e size v n xs):∃a c,v=.slice a n c:=by
 rcases h.2 with ⟨rfl,rfl⟩ | ⟨g,cap,cur,rfl,_⟩
 ·exact⟨none,0,rfl⟩
 ·exact⟨_,cap,rfl⟩
def padX(l:List Nat)(j:Nat):List Nat:=l++128::List.replicate j 0
theorem padX_len(l:List Nat)(j:Nat):(padX l j).length=l.length+1+j:=by simp[padX];omega
theorem padX_succ(l:List Nat)(j:Nat):padX l (j+1)=padX l j++[0]:=by simp[padX,List.replicate_succ']
def padR(l:List Nat):List Nat:=l++(128::List.replicate (zFL l) 0)++lenB l.length 8
theorem fillK(k:Nat):Instr.fill (fun i=>some (i*1,1)) ((Array.range (1*1)).map ((Value.int .u8 0).cells[·%(Value.int .u8 0).cells.size]!)) [(0,.int .u8 k)]=some (kv [k]):=by kernel_rfl
theorem own_snoc{w:World}{base:Nat}{e:TypeId}{v:Value}{l:List Nat}{k:Nat}(h:w.ownsRow base e 1 v (l.length+[k].length) (zAJ l++zAJ [k])):w.ownsRow base e 1 v (l++[k]).length (zAJ (l++[k])):=by
 rw[List.length_append,zCB];exact h
set_option maxRecDepth 20000 in
theorem Pad_ref(l:List Nat)(v:Value)(w:World)(hl:l.length≤1099511627776)(hv:RdB w v l) :
  Calls Tryz.prog 130 #[v] w fun e w'=>∃v',e=.returned v'∧w'.ownsRow w.heap.size 5 1 v' (padR l).length (zAJ (padR l))∧Below w.heap.size w w':=by
 have HV:=Lib.hid hv;obtain⟨a,c,rfl,_⟩:=hv.open;clear hv;have st:=St.init w;have hli:((l.length:Nat):Int)≤1099511627776:=by omega
 go_enter Tryz.func130,Tryz.ntmps130;go_upto_region 3 with (first
  |((with_reducible refine zBP 22 ?_);refine zFM st rfl 22 rfl 5 zCC 1 zCN ?_;intro v1 w1 st1 hown1;clear st)
  |(at_builtin;refine zCE (base:=w.heap.size) st1 (by simp) (Nat.le_refl _) rfl _ _ 22 rfl 5 (.int .u8 0) 1 zCC zDU zCN zFD rfl v1 0 [] rfl hown1 (.slice a l.length c) l rfl (HV.out.call st1.below) (by unfold maxLen;omega) (by omega) st1.size ?_;intro v2 w2 st2 hown2 _ _;clear st1 hown1;rw[Nat.zero_add,List.nil_append] at hown2)
  |((with_reducible refine zBP 22 ?_);refine zAR st2 rfl 22 1 _ rfl 5 zCC _ 1 zDU zCN (by decide) (by decide) [(0,.int .u8 (128:Nat))] ?_ _ (fillK 128) ?_;(·first | (simp[Act.eval];done) | rfl);intro b3 w3 st3 hb3;have hown3:=zAY hown2 hb3;clear st2 hown2)
  |(at_builtin;refine zCE (base:=w.heap.size) st3.drop (by simp) (Nat.le_refl _) rfl _ _ 22 rfl 5 (.int .u8 0) 1 zCC zDU zCN zFD rfl v2 l.length (zAJ l) rfl hown3 (.slice (some ⟨b3,0,none⟩) 1 1) [128] rfl (RdB.row (by decide) (st3.at (i:=0) rfl)) (by unfold maxLen;simp;omega) (by simp;omega) st3.size ?_;intro v4 w4 st4 hown4 _ _;clear st3 hown3;have hown5:=own_snoc hown4;clear hown4))
 go_loopw [3] (fun out wr=>∃j:Nat,j≤zFL l∧wr.ownsRow w.heap.size 5 1 out (padX l j).length (zAJ (padX l j))∧St w.heap.size w [] wr) (fun out _=>l.length+1+zFL l - lenOf out)
 case atStart=>exact⟨0,Nat.zero_le _,hown5,st4⟩
 case round =>
  obtain⟨j,hj,hown,st5⟩:=hrel;obtain⟨a6,c6,rfl⟩:=zDN hown;clear hown5 st4;have Hlen:=Lib.hid (padX_len l j)
  by_cases hlt:j<zFL l
  ·have hne:((((padX l j).length:Nat):Int)%64 != 56)=true:=by rw[Hlen.out,bne_iff_ne];unfold zFL at hlt;omega
   have Hs:=Lib.hid (padX_succ l j);have Hm:Hid ((padX l j).length≤1099511627776+100):=by unfold Hid;rw[Hlen.out];unfold zFL at hlt;omega
   have Hc:Hid ((padX l j).length=l.length+1+j):=Hlen.out;generalize hX:padX l j=X at *;clear hX Hlen
   go_wp2_with (first
    |((with_reducible refine zBP 22 ?_);refine zAR st5 rfl 22 1 _ rfl 5 zCC _ 1 zDU zCN (by decide) (by decide) [(0,.int .u8 (0:Nat))] ?_ _ (fillK 0) ?_;(·first | (simp[Act.eval];done) | rfl);intro b7 w7 st7 hb7;have hown7:=zAY hown hb7;clear st5 hown)
    |(at_builtin;refine zCE (base:=w.heap.size) st7.drop (by simp) (Nat.le_refl _) rfl _ _ 22 rfl 5 (.int .u8 0) 1 zCC zDU zCN zFD rfl _ X.length (zAJ X) rfl hown7 (.slice (some ⟨b7,0,none⟩) 1 1) [0] rfl (RdB.row (by decide) (st7.at (i:=0) rfl)) (by have:=Hm.out;unfold maxLen;simp;omega) (by have:=Hm.out;simp;omega) st7.size ?_;intro v8 w8 st8 hown8 _ _;clear st7 hown7;have hown9:=own_snoc hown8;clear hown8))
   go_roundw
   case rel=>exact⟨j+1,hlt,by rw[Hs.out];exact hown9,st8⟩
   case measure =>
    obtain⟨a9,c9,rfl⟩:=zDN hown9;have h1:=Hc.out
    show l.length+1+zFL l - (X++[0]).length<l.length+1+zFL l - X.length
    rw[List.length_append,List.length_singleton];omega
  ·obtain rfl:j=zFL l:=by omega
   have hne:((((padX l (zFL l)).length:Nat):Int)%64 != 56)=false:=by rw[Hlen.out,bne_eq_false_iff_eq];unfold zFL;omega
   have HX:Hid (padR l=padX l (zFL l)++lenB l.length 8):=rfl;have Hm:Hid ((padX l (zFL l)).length≤1099511627776+100):=by unfold Hid;rw[Hlen.out];unfold zFL;omega
   generalize hX:padX l (zFL l)=X at *;clear hX Hlen hlt hj;go_upto_region 7 with (first | (fail "x"))
   go_loopw [3,5] (fun out sh wr=>∃i:Nat,i≤8∧sh=.int .i64 (56 - 8*(i:Nat):Int)∧wr.ownsRow w.heap.size 5 1 out (X++lenB l.length i).length (zAJ (X++lenB l.length i))∧St w.heap.size w [] wr) (fun _ sh _=>(intOf sh+8).toNat)
   case atStart=>exact⟨0,by decide,rfl,by simpa[lenB] using hown,st5⟩
   case round =>
    obtain⟨i,hi,rfl,hown6,st6⟩:=hrel;obtain⟨a6,c6,rfl⟩:=zDN hown6;clear hown st5 hne
    by_cases hlt:i<8
    ·have hi8:i=0∨i=1∨i=2∨i=3∨i=4∨i=5∨i=6∨i=7:=by omega
     have Hs:=Lib.hid (lenB_succ l.length i);have Hm2:Hid ((X++lenB l.length i).length≤1099511627776+200):=by have:=Hm.out;unfold Hid;rw[List.length_append];unfold lenB;simp;omega
     clear hi hlt;have HK:Hid (∀K:Nat,K<256→K=l.length*8 / 2^(56 - 8*i)%256→∀(v':Value)(wr':World),wr'.ownsRow w.heap.size 5 1 v' ((X++lenB l.length i).length+[K].length) (zAJ (X++lenB l.length i)++zAJ [K])→wr'.ownsRow w.heap.size 5 1 v' (X++lenB l.length (i+1)).length (zAJ (X++lenB l.length (i+1)))):=fun K _ hK v' wr' h=>by
      rw[Hs.out,←hK,←List.append_assoc];exact own_snoc h
     obtain⟨K,hK⟩:∃K:Nat,K=l.length*8 / 2^(56 - 8*i)%256:=⟨_,rfl⟩
     have hK9:K<256:=by rw[hK];exact Nat.mod_lt _ (by decide)
     have HK2:=Lib.hid (HK.out K hK9 hK);have HI:Hid (∀(v':Value) wr',wr'.ownsRow w.heap.size 5 1 v' ((X++lenB l.length i).length+[K].length) (zAJ (X++lenB l.length i)++zAJ [K])→St w.heap.size w [] wr'→∃i':Nat,i'≤8∧Value.int .i64 (56 - 8*(i:Nat) - 8:Int)=.int .i64 (56 - 8*(i':Nat):Int)∧wr'.ownsRow w.heap.size 5 1 v' (X++lenB l.length i').length (zAJ (X++lenB l.length i'))∧St w.heap.size w [] wr'):=fun v' wr' h1 h2=>⟨i+1,by omega,congrArg (Value.int .i64) (by omega),HK2.out v' wr' h1,h2⟩
     clear HK HK2 Hs hK9;generalize X++lenB l.length i=Y at hown6 Hm2 HI ⊢;rcases hi8 with rfl | rfl | rfl | rfl | rfl | rfl | rfl | rfl
     all_goals
      simp only[Nat.reduceMul,Nat.reduceSub,Nat.reducePow] at hK
      go_wp2_with (first
       |((with_reducible refine zBP 22 ?_);refine zAR st6 rfl 22 1 _ rfl 5 zCC _ 1 zDU zCN (by decide) (by decide) [(0,.int .u8 (K:Nat))] ?_ _ (fillK K) ?_;(·(simp[Act.eval];omega));intro b7 w7 st7 hb7;have hown7:=zAY hown6 hb7;clear st6 hown6)
       |(at_builtin;refine zCE (base:=w.heap.size) st7.drop (by simp) (Nat.le_refl _) rfl _ _ 22 rfl 5 (.int .u8 0) 1 zCC zDU zCN zFD rfl _ Y.length (zAJ Y) rfl hown7 (.slice (some ⟨b7,0,none⟩) 1 1) [K] rfl (RdB.row (by show 1≤maxLen;decide) (st7.at (i:=0) rfl)) (by have:=Hm2.out;unfold maxLen;simp;omega) (by have:=Hm2.out;simp;omega) st7.size ?_;intro v8 w8 st8 hown8 _ _;clear st7 hown7))
      go_roundw
      case rel=>exact HI.out _ _ hown8 st8
      case measure=>simp[intOf]
    ·obtain rfl:i=8:=by omega
     clear hi hlt;go_wp2;go_ret;refine⟨_,rfl,?_,st6.below⟩;rw[HX.out];exact hown6
end
section
set_option maxHeartbeats 2000000
open Go Go.RowKit
attribute [local irreducible] Inv.wpInv Mix.wpUp
theorem zEM(x:Int)(n:Nat)(h0:0<n)(h1:n<32)(w:World):Calls Tryz.prog 132 #[.int .u32 x,.int .u64 (n:Nat)] w fun e w'=>e=.returned (.int .u32 (zHG x n))∧Below w.heap.size w w' :=
 (turn_calls x n h0 h1 w).mono fun e w' h=>⟨h.1,by rw[h.2];exact Below.refl _ _⟩
theorem wrapU32(x:Int):IntKind.u32.wrap x=x%4294967296:=rfl
def zEN(l:List Int):List Value:=l.map (Value.int .u32)
theorem ucells_app(l m:List Int):zEN (l++m)=zEN l++zEN m:=by simp[zEN]
theorem uv_toList(l:List Int):(uv l).toList=zEN l:=by simp[uv,zEN]
def wordR(b:List Nat)(i:Nat):Int:=or32 (or32 (or32 ((b.getD (4*i) 0:Nat)*16777216) ((b.getD (4*i+1) 0:Nat)*65536)) ((b.getD (4*i+2) 0:Nat)*256)) (b.getD (4*i+3) 0:Nat)
def nextR(W:List Int)(i:Nat):Int :=
 let x:=W.getD (i - 15) 0
 let y:=W.getD (i - 2) 0
 add32 (add32 (add32 (W.getD (i - 16) 0) (zFE (zFE (zHG x 7) (zHG x 18)) (x / 8))) (W.getD (i - 7) 0)) (zFE (zFE (zHG y 17) (zHG y 19)) (y / 1024))
def zBS(b:List Nat):Nat→List Int
 |0=>[]
 |i+1=>zBS b i++[if i<16 then wordR b i else nextR (zBS b i) i]
theorem schedR_len(b:List Nat):∀i,(zBS b i).length=i
 |0=>rfl
 |i+1=>by rw[zBS,List.length_append,schedR_len b i];rfl
theorem fillU(x:Int):Instr.fill (fun i=>some (i*1,1)) ((Array.range (1*1)).map ((Value.int .u32 0).cells[·%(Value.int .u32 0).cells.size]!)) [(0,.int .u32 x)]=some (uv [x]):=by kernel_rfl
theorem bytesU32:(Tryz.prog.info? 243).map (·.bytes)=some 4:=by kernel_rfl
theorem own_addr{w:World}{base n c size:Nat}{e:TypeId}{a:Option Addr}{xs:List Value}(h:w.ownsRow base e size (.slice a n c) n xs)(hn:0<n):∃g,a=some ⟨g,0,none⟩:=by
 rcases h.2 with ⟨h0,rfl⟩ | ⟨g,cap,cur,he,_⟩
 ·exact absurd hn (Nat.lt_irrefl _)
 ·injection he with h1
  exact⟨g,h1⟩
theorem own_cellU{w:World}{base n c g:Nat}{e:TypeId}{l:List Int}(h:w.ownsRow base e 1 (.slice (some ⟨g,0,none⟩) n c) n (zEN l))(k:Nat)(hk:k<n):w.cell? ⟨g,k,none⟩=some (.int .u32 (l.getD k 0)):=by
 have hl:l.length=n:=by have:=h.1;simpa[zEN] using this
 rcases h.2 with ⟨h0,rfl⟩ | ⟨g',cap,cur,he,_,hg,hle,hcap,hsz,htake⟩
 ·exact absurd hk (Nat.not_lt_zero _)
 ·injection he with h1
  obtain rfl:g=g':=by injection h1 with h1;injection h1
  have h2:(zEN l)[k]?=some (.int .u32 (l.getD k 0)):=by simp[zEN,List.getD_eq_getElem?_getD,List.getElem?_eq_getElem (by omega:k<l.length)]
  rw[←htake,List.getElem?_take,if_pos (by omega)] at h2;simp only[World.cell?,hg,Option.isSome_none,Bool.false_eq_true,if_false];rw[←Array.getElem?_toList];exact h2
set_option maxRecDepth 20000 in
theorem schedule_calls(l:List Nat)(v:Value)(w:World)(hl:l.length=64)(hby:∀x∈l,x<256)(hv:RdB w v l) :
  Calls Tryz.prog 131 #[v] w fun e w'=>∃v',e=.returned v'∧w'.ownsRow w.heap.size 243 1 v' 64 (zEN (zBS l 64))∧Below w.heap.size w w':=by
 obtain⟨a,c,rfl,Hc⟩:=hv.open;obtain⟨b,off,rfl,hc⟩:=Hc.out (by omega);have HC:=Lib.hid hc;have HB:Hid (∀k,l.getD k 0<256):=fun k=>by
  rw[List.getD_eq_getElem?_getD]
  cases h:l[k]? with
  |none=>simp
  |some x=>exact hby x (List.mem_of_getElem? h)
 rw[hl];have HL:=Lib.hid hl;clear hv Hc hc hby hl;have st:=St.init w;go_enter Tryz.func131,Tryz.ntmps131;go_upto_region 3 with (first | (fail "x"))
 go_loopw [3,4] (fun out i wr=>∃k:Nat,k≤16∧i=.int .i64 (k:Nat)∧wr.ownsRow w.heap.size 243 1 out k (zEN (zBS l k))∧St w.heap.size w [] wr) (fun _ i _=>(16 - intOf i).toNat)
 case atStart=>exact⟨0,by decide,rfl,World.ownsRow_nil _ _ _ _,st⟩
 case round =>
  obtain⟨k,hk,rfl,hown,st1⟩:=hrel;obtain⟨a3,c3,rfl⟩:=zDN hown
  by_cases hlt:k<16
  ·have hki:((k:Nat):Int)<16:=by omega
   have hwd:Hid (zBS l (k+1)=zBS l k++[wordR l k]):=by unfold Hid;rw[zBS,if_pos hlt]
   have Hw:Hid (wordR l k=or32 (or32 (or32 ((l.getD (4*k) 0:Nat)*16777216) ((l.getD (4*k+1) 0:Nat)*65536)) ((l.getD (4*k+2) 0:Nat)*256)) (l.getD (4*k+3) 0:Nat)):=rfl;have q0:Hid (∀wx,Below w.heap.size w wx→wx.cell? ⟨b,off+4*k,none⟩=some (.int .u8 (l.getD (4*k) 0:Nat))∧wx.cell? ⟨b,off+(4*k+1),none⟩=some (.int .u8 (l.getD (4*k+1) 0:Nat))∧wx.cell? ⟨b,off+(4*k+2),none⟩=some (.int .u8 (l.getD (4*k+2) 0:Nat))∧wx.cell? ⟨b,off+(4*k+3),none⟩=some (.int .u8 (l.getD (4*k+3) 0:Nat))):=fun wx hb=>by
    have h:=HL.out;exact⟨HC.out wx hb _ (by omega),HC.out wx hb _ (by omega),HC.out wx hb _ (by omega),HC.out wx hb _ (by omega)⟩
   have hb0:=HB.out (4*k);have hb1:=HB.out (4*k+1);have hb2:=HB.out (4*k+2);have hb3:=HB.out (4*k+3);generalize l.getD (4*k) 0=x0 at *;generalize l.getD (4*k+1) 0=x1 at *;generalize l.getD (4*k+2) 0=x2 at *;generalize l.getD (4*k+3) 0=x3 at *;go_upto_region 5 with (first | (fail "x"))
   refine Mix.wp_region_mix 35 (fun wx=>St w.heap.size w [] wx∧wx.ownsRow w.heap.size 243 1 (.slice a3 k c3) k (zEN (zBS l k))) zBL (by kernel_rfl) ⟨st1.drew,zAY hown (Below.refl _ _).drew⟩ ?_;intro F inv;have up0:Mix.Up (fun wx=>St w.heap.size w [] wx∧wx.ownsRow w.heap.size 243 1 (.slice a3 k c3) k (zEN (zBS l k))):=fun wx wy h hb=>⟨h.1.call hb,zAY h.2 hb⟩
   refine Mix.good_batch (f:=1) F up0 [0,1,2,3,4,5,6,7,8,9,10,11,12,13,14,15,16,17,18,19,20,21,22,23,24,25,26,27,28,29,30,31,32,33] _ _ inv (by kernel_rfl) ?_;clear inv;have q:=fun (x:World) (h:St w.heap.size w [] x∧x.ownsRow w.heap.size 243 1 (.slice a3 k c3) k (zEN (zBS l k)))=>q0.out x h.1.below
   iterate 34
    (refine Mix.wpUp_cons rfl (fun K hK=>?_);go_simp;apply zAU;· (intro wx hw;have q1:=q wx hw;go_simp;(try go_ints);(try go_simp);(try (rw[if_pos (by omega)]));(try go_simp);(first | done | rfl))
     refine hK _ ?_;clear hK K)
   refine Mix.wpUp_nil ?_;intro inv;refine Mix.good_one (i:=34) (by kernel_rfl) inv (fun w5 h5=>?_);clear inv;refine zBQ h5.1 rfl rfl 245 1 _ rfl 243 sliceU32 _ 1 zeroU32 zID (by decide) (by decide) [(0,.int .u32 (wordR l k))] (by rw[Hw.out];simp[Act.eval,or32];done) _ (fillU _) ?_;intro b5 w6 st6 hb6;refine⟨fun wx=>St w.heap.size w [(b5,uv [wordR l k],243)] wx∧wx.ownsRow w.heap.size 243 1 (.slice a3 k c3) k (zEN (zBS l k)),fun wx wy h hb=>⟨h.1.call hb,zAY h.2 hb⟩,⟨st6,zAY h5.2 hb6⟩,fun _ h=>⟨h.1.drop,h.2⟩,fun inv=>?_⟩;clear h5 st6 hb6 inv F up0 st1 hown q q0;refine⟨by kernel_rfl,fun w7 h7=>?_⟩;obtain⟨st7,hown7⟩:=h7;simp only[List.drop_succ_cons,List.drop_zero]
   go_wp2_with (first
    |(at_builtin;refine zDX (base:=w.heap.size) st7.drop _ (fun p hp=>(List.not_mem_nil hp).elim) (Nat.le_refl _) rfl _ _ 245 rfl 243 _ 1 4 sliceU32 zeroU32 zID bytesU32 rfl (by decide) k (zEN (zBS l k)) rfl hown7 b5 1 1 (uv [wordR l k]) 243 rfl rfl (st7.at (i:=0) rfl) (uv_one _) (by unfold maxLen;omega) (by omega) st7.size ?_;intro v' w8 st8 hown8 _;clear st7 hown7;rw[uv_toList,←ucells_app,←hwd.out] at hown8))
   go_roundw
   case rel=>exact⟨k+1,hlt,rfl,hown8,st8⟩
   case measure=>simp[intOf];omega
  ·obtain rfl:k=16:=by omega
   clear hk hlt st;go_upto_region 7 with (first | (fail "x"))
   go_loopw [3,5,6,7] (fun out i _ _ wr=>∃k:Nat,16≤k∧k≤64∧i=.int .i64 (k:Nat)∧wr.ownsRow w.heap.size 243 1 out k (zEN (zBS l k))∧St w.heap.size w [] wr) (fun _ i _ _ _=>(64 - intOf i).toNat)
   case atStart=>exact⟨16,by decide,by decide,rfl,hown,st1⟩
   case round =>
    obtain⟨k,hk16,hk,rfl,hown,st1⟩:=hrel;obtain⟨a3,c3,rfl⟩:=zDN hown;obtain⟨g,rfl⟩:=own_addr hown (by omega)
    by_cases hlt:k<64
    ·have hki:((k:Nat):Int)<64:=by omega
     have hki16:16≤((k:Nat):Int):=by omega
     have hwd:Hid (zBS l (k+1)=zBS l k++[nextR (zBS l k) k]):=by unfold Hid;rw[zBS,if_neg (by omega)]
     have Hw:Hid (nextR (zBS l k) k=add32 (add32 (add32 ((zBS l k).getD (k - 16) 0) (zFE (zFE (zHG ((zBS l k).getD (k - 15) 0) 7) (zHG ((zBS l k).getD (k - 15) 0) 18)) ((zBS l k).getD (k - 15) 0 / 8))) ((zBS l k).getD (k - 7) 0)) (zFE (zFE (zHG ((zBS l k).getD (k - 2) 0) 17) (zHG ((zBS l k).getD (k - 2) 0) 19)) ((zBS l k).getD (k - 2) 0 / 1024))):=rfl;have q0:Hid (∀wx:World,wx.ownsRow w.heap.size 243 1 (.slice (some ⟨g,0,none⟩) k c3) k (zEN (zBS l k))→wx.cell? ⟨g,k - 15,none⟩=some (.int .u32 ((zBS l k).getD (k - 15) 0))∧wx.cell? ⟨g,k - 2,none⟩=some (.int .u32 ((zBS l k).getD (k - 2) 0))∧wx.cell? ⟨g,k - 16,none⟩=some (.int .u32 ((zBS l k).getD (k - 16) 0))∧wx.cell? ⟨g,k - 7,none⟩=some (.int .u32 ((zBS l k).getD (k - 7) 0))):=fun wx h =>
      ⟨own_cellU h _ (by omega),own_cellU h _ (by omega),own_cellU h _ (by omega),own_cellU h _ (by omega)⟩
     obtain⟨d15,d2,_,_⟩:=q0.out wr hown;generalize nextR (zBS l k) k=NX at *;generalize (zBS l k).getD (k - 15) 0=X at *;generalize (zBS l k).getD (k - 2) 0=Y at *;generalize (zBS l k).getD (k - 16) 0=Z at *;generalize (zBS l k).getD (k - 7) 0=V at *;go_upto_region 11 with (first | (fail "x"))
     refine Mix.wp_region_mix 31 (fun wx=>St w.heap.size w [] wx∧wx.ownsRow w.heap.size 243 1 (.slice (some ⟨g,0,none⟩) k c3) k (zEN (zBS l k))) zBL (by kernel_rfl) ⟨st1.drew,zAY hown (Below.refl _ _).drew⟩ ?_;intro F inv;have up0:Mix.Up (fun wx=>St w.heap.size w [] wx∧wx.ownsRow w.heap.size 243 1 (.slice (some ⟨g,0,none⟩) k c3) k (zEN (zBS l k))):=fun wx wy h hb=>⟨h.1.call hb,zAY h.2 hb⟩
     refine Mix.good_batch (f:=1) F up0 [0,1,2,3,4,5,6,7,8,9,10,11,12,13,14,15,16,17,18,19,20,21,22,23,24,25,26,27,28,29] _ _ inv (by kernel_rfl) ?_;clear inv;have q:=fun (x:World) (h:St w.heap.size w [] x∧x.ownsRow w.heap.size 243 1 (.slice (some ⟨g,0,none⟩) k c3) k (zEN (zBS l k)))=>q0.out x h.2
     iterate 7
      (refine Mix.wpUp_cons rfl (fun K hK=>?_);go_simp;apply zAU;· (intro wx hw;have q1:=q wx hw;go_simp;(try go_ints);(try go_simp);(try (rw[if_pos (by omega)]));(try go_simp);(first | done | rfl))
       refine hK _ ?_;clear hK K)
     (refine Mix.wpUp_cons rfl (fun K hK=>?_);go_simp;refine zER 132 #[.int .u32 X,.int .u64 7] ?_ (fun wx stx=>zEM X 7 (by decide) (by decide) wx) ?_;· (intro wx hw;go_simp)
      refine hK _ ?_;clear hK K)
     iterate 1
      (refine Mix.wpUp_cons rfl (fun K hK=>?_);go_simp;apply zAU;· (intro wx hw;have q1:=q wx hw;go_simp;(try go_ints);(try go_simp);(try (rw[if_pos (by omega)]));(try go_simp);(first | done | rfl))
       refine hK _ ?_;clear hK K)
     (refine Mix.wpUp_cons rfl (fun K hK=>?_);go_simp;refine zER 132 #[.int .u32 X,.int .u64 18] ?_ (fun wx stx=>zEM X 18 (by decide) (by decide) wx) ?_;· (intro wx hw;go_simp)
      refine hK _ ?_;clear hK K)
     iterate 12
      (refine Mix.wpUp_cons rfl (fun K hK=>?_);go_simp;apply zAU;· (intro wx hw;have q1:=q wx hw;go_simp;(try go_ints);(try go_simp);(try (rw[if_pos (by omega)]));(try go_simp);(first | done | rfl))
       refine hK _ ?_;clear hK K)
     (refine Mix.wpUp_cons rfl (fun K hK=>?_);go_simp;refine zER 132 #[.int .u32 Y,.int .u64 17] ?_ (fun wx stx=>zEM Y 17 (by decide) (by decide) wx) ?_;· (intro wx hw;go_simp)
      refine hK _ ?_;clear hK K)
     iterate 1
      (refine Mix.wpUp_cons rfl (fun K hK=>?_);go_simp;apply zAU;· (intro wx hw;have q1:=q wx hw;go_simp;(try go_ints);(try go_simp);(try (rw[if_pos (by omega)]));(try go_simp);(first | done | rfl))
       refine hK _ ?_;clear hK K)
     (refine Mix.wpUp_cons rfl (fun K hK=>?_);go_simp;refine zER 132 #[.int .u32 Y,.int .u64 19] ?_ (fun wx stx=>zEM Y 19 (by decide) (by decide) wx) ?_;· (intro wx hw;go_simp)
      refine hK _ ?_;clear hK K)
     iterate 5
      (refine Mix.wpUp_cons rfl (fun K hK=>?_);go_simp;apply zAU;· (intro wx hw;have q1:=q wx hw;go_simp;(try go_ints);(try go_simp);(try (rw[if_pos (by omega)]));(try go_simp);(first | done | rfl))
       refine hK _ ?_;clear hK K)
     refine Mix.wpUp_nil ?_;intro inv;refine Mix.good_one (i:=30) (by kernel_rfl) inv (fun w5 h5=>?_);clear inv;refine zBQ h5.1 rfl rfl 245 1 _ rfl 243 sliceU32 _ 1 zeroU32 zID (by decide) (by decide) [(0,.int .u32 NX)] (by rw[Hw.out];simp only[add32,wrapU32];simp[Act.eval,zFE]) _ (fillU _) ?_;intro b5 w6 st6 hb6;refine⟨fun wx=>St w.heap.size w [(b5,uv [NX],243)] wx∧wx.ownsRow w.heap.size 243 1 (.slice (some ⟨g,0,none⟩) k c3) k (zEN (zBS l k)),fun wx wy h hb=>⟨h.1.call hb,zAY h.2 hb⟩,⟨st6,zAY h5.2 hb6⟩,fun _ h=>⟨h.1.drop,h.2⟩,fun inv=>?_⟩;clear h5 st6 hb6 inv F up0 st1 hown q q0 d15 d2;refine⟨by kernel_rfl,fun w7 h7=>?_⟩;obtain⟨st7,hown7⟩:=h7;simp only[List.drop_succ_cons,List.drop_zero]
     go_wp2_with (first
      |(at_builtin;refine zDX (base:=w.heap.size) st7.drop _ (fun p hp=>(List.not_mem_nil hp).elim) (Nat.le_refl _) rfl _ _ 245 rfl 243 _ 1 4 sliceU32 zeroU32 zID bytesU32 rfl (by decide) k (zEN (zBS l k)) rfl hown7 b5 1 1 (uv [NX]) 243 rfl rfl (st7.at (i:=0) rfl) (uv_one _) (by unfold maxLen;omega) (by omega) st7.size ?_;intro v' w8 st8 hown8 _;clear st7 hown7;rw[uv_toList,←ucells_app,←hwd.out] at hown8))
     go_roundw
     case rel =>
      (repeat apply Exists.intro)
      refine⟨⟨k+1,by omega,hlt,rfl,hown8,st8⟩,?_⟩;rfl
     case measure=>simp[intOf];omega
    ·obtain rfl:k=64:=by omega
     go_wp2;go_ret;exact⟨_,rfl,hown,st1.below⟩
end
section
set_option maxHeartbeats 4000000
open Go Go.RowKit
attribute [local irreducible] Inv.wpInv Mix.wpUp
def not32(x:Int):Int:=Go.bits .xor .u32 (if IntKind.u32.signed=true then -1 else IntKind.u32.max) x
def t1R(s:Eight)(k w:Int):Int:=(s.h+zFE (zFE (zHG s.e 6) (zHG s.e 11)) (zHG s.e 25)+zFE (and32 s.e s.f) (and32 (not32 s.e) s.g)+k+w)%4294967296
def t2R(s:Eight):Int:=(zFE (zFE (zHG s.a 2) (zHG s.a 13)) (zHG s.a 22)+zFE (zFE (and32 s.a s.b) (and32 s.a s.c)) (and32 s.b s.c))%4294967296
def roundR(s:Eight)(k w:Int):Eight:=⟨add32 (t1R s k w) (t2R s),s.a,s.b,s.c,add32 s.d (t1R s k w),s.e,s.f,s.g⟩
def zIG(s:Eight)(W:List Int):Nat→Eight
 |0=>s
 |i+1=>roundR (zIG s W i) (zAK.getD i 0) (W.getD i 0)
def blockR(S:List Int)(b:List Nat):List Int:=addS S (zIG (zGS S) (zBS b 64) 64) 8
def zHI(l:List Nat):Nat→List Int
 |0=>zHB
 |i+1=>blockR (zHI l i) (piece l i)
theorem statesR_len(l:List Nat):∀i,(zHI l i).length=8
 |0=>rfl
 |_+1=>addS_len _ _ _
def sumR(l:List Nat):List Nat:=outI (zHI (padR l) ((padR l).length / 64)) 32
theorem toOf8(S:List Int)(h:S.length=8):zFI (zGS S)=S:=by
 match S,h with
 |[a,b,c,d,e,f,g,h],_=>rfl
theorem builtEight2(s:Eight):Tryz.prog.built 244 [(0,.int .u32 s.a),(1,.int .u32 s.b),(2,.int .u32 s.c),(3,.int .u32 s.d),(4,.int .u32 s.e),(5,.int .u32 s.f),(6,.int .u32 s.g),(7,.int .u32 s.h)]=some (uv (zFI s)):=builtEight _ _ _ _ _ _ _ _
theorem zeroEight:(Tryz.prog.info? 244).bind (·.zero)=some (.agg (uv (List.replicate 8 0))):=by kernel_rfl
theorem sizeEight:(Tryz.prog.info? 244).map (·.size)=some 8:=by kernel_rfl
theorem aggEight:Tryz.prog.underlying 244=some (.array 8 243):=by kernel_rfl
theorem sizeEightOf{S:List Int}(h:S.length=8):(Tryz.prog.info? 244).map (·.size)=some (uv S).size:=by rw[uv_size,h];exact sizeEight
def HasW(cur:Array Value)(W:List Int):Prop:=∀i,i<64→cur[i]?=some (.int .u32 (W.getD i 0))
theorem own_rowU{w:World}{base n:Nat}{e:TypeId}{v:Value}{l:List Int}(h:w.ownsRow base e 1 v n (zEN l))(hn:0<n) :
  ∃g c cur,v=.slice (some ⟨g,0,none⟩) n c∧base≤g∧w.heap[g]?=some (.cells cur e (0,0))∧n≤c∧∀i,i<n→cur[i]?=some (.int .u32 (l.getD i 0)):=by
 have hl:l.length=n:=by have:=h.1;simpa[zEN] using this
 rcases h.2 with ⟨h0,rfl⟩ | ⟨g,cap,cur,rfl,hb,hg,hle,hcap,hsz,htake⟩
 ·exact absurd hn (Nat.lt_irrefl _)
 ·refine⟨g,cap,cur,rfl,hb,hg,hle,fun k hk=>?_⟩
  have h2:(zEN l)[k]?=some (.int .u32 (l.getD k 0)):=by simp[zEN,List.getD_eq_getElem?_getD,List.getElem?_eq_getElem (by omega:k<l.length)]
  rw[←htake,List.getElem?_take,if_pos (by omega)] at h2;rw[←Array.getElem?_toList];exact h2
theorem own_rowB{w:World}{base n:Nat}{e:TypeId}{v:Value}{l:List Nat}(h:w.ownsRow base e 1 v n (zAJ l))(hn:0<n) :
  ∃g c cur,v=.slice (some ⟨g,0,none⟩) n c∧base≤g∧w.heap[g]?=some (.cells cur e (0,0))∧n≤c∧∀i,i<n→cur[i]?=some (.int .u8 (l.getD i 0:Nat)):=by
 have hl:l.length=n:=by have:=h.1;simpa[zAJ] using this
 rcases h.2 with ⟨h0,rfl⟩ | ⟨g,cap,cur,rfl,hb,hg,hle,hcap,hsz,htake⟩
 ·exact absurd hn (Nat.lt_irrefl _)
 ·refine⟨g,cap,cur,rfl,hb,hg,hle,fun k hk=>?_⟩
  have h2:=zHP l k (by omega);rw[←htake,List.getElem?_take,if_pos (by omega)] at h2;rw[←Array.getElem?_toList];exact h2
theorem padR_len(l:List Nat):(padR l).length=64*((l.length+72) / 64):=by
 unfold padR lenB zFL;simp;omega
theorem padR_lt(l:List Nat)(h:∀x∈l,x<256):∀x∈padR l,x<256:=by
 intro x hx;unfold padR at hx;rcases List.mem_append.1 hx with hx | hx
 ·rcases List.mem_append.1 hx with hx | hx
  ·exact h x hx
  ·rcases List.mem_cons.1 hx with rfl | hx
   ·decide
   ·rw[(List.mem_replicate.1 hx).2];decide
 ·unfold lenB at hx
  obtain⟨j,_,rfl⟩:=List.mem_map.1 hx;exact Nat.mod_lt _ (by decide)
set_option maxRecDepth 20000 in
theorem SumR_calls(l:List Nat)(v:Value)(w:World)(hb:∀x∈l,x<256)(hl:l.length≤1099511627776)(hv:RdB w v l) :
  Calls Tryz.prog 85 #[v] w fun e w'=>e=.returned (.agg (kv (sumR l)))∧Below w.heap.size w w':=by
 have HV:=Lib.hid hv;have HPl:=Lib.hid (padR_len l);have HPb:=Lib.hid (padR_lt l hb);obtain⟨M,hM⟩:∃M,M=(padR l).length / 64:=⟨_,rfl⟩
 have HM:Hid ((padR l).length=64*M):=by unfold Hid;rw[hM,HPl.out];omega
 have HM0:Hid (0<M):=by unfold Hid;rw[hM,HPl.out];omega
 have HF:Hid (sumR l=outI (zHI (padR l) M) 32):=by unfold Hid sumR;rw[hM]
 have hMi:((M:Nat):Int)≤17179869186:=by have:=HPl.out;omega
 have hM1:(0:Int)<(M:Nat):=by have:=HM0.out;omega
 have HPd:=Lib.hid (fun wx (hbx:Below w.heap.size w wx)=>Pad_ref l v wx hl (HV.out.call hbx));obtain⟨va,vc,rfl,_⟩:=hv.open;clear hv hb hl hM;generalize padR l=p at *;have st:=St.init w;go_enter Tryz.func85,Tryz.ntmps85;go_upto_region 4 with (first
  |((with_reducible refine zAW 38 ?_);refine zAE st rfl 38 rfl _ zCG ?_;intro b2 w1 st1;clear st)
  |((with_reducible refine zEG 244 ?_);refine zAM rfl 244 _ rfl [(0,.int .u32 1779033703),(1,.int .u32 3144134277),(2,.int .u32 1013904242),(3,.int .u32 2773480762),(4,.int .u32 1359893119),(5,.int .u32 2600822924),(6,.int .u32 528734635),(7,.int .u32 1541459225)] ?_ _ (builtEight _ _ _ _ _ _ _ _) ?_;(·(simp[Act.eval];done)))
  |((with_reducible refine zAW 244 ?_);refine zAE st1 rfl 244 rfl _ zeroEight ?_;intro b3 w2 st2;clear st1)
  |((with_reducible refine zAN 244 ?_);refine zAA st2 rfl 244 _ _ rfl 0 b3 rfl (.agg (uv zHB)) rfl _ _ rfl (sizeEightOf rfl) rfl (uv_one _) _ rfl ?_;intro w3 st3;clear st2)
  |(go_at_call 129;refine(primes_calls _).mono ?_;rintro e w4 ⟨⟨bk,rfl,hbk,hrk⟩,hb4⟩;have st4:=St.callNew st3 hb4 hbk hrk;clear st3 hb4 hbk hrk)
  |(go_at_call 130;refine(HPd.out _ st4.below).mono ?_;rintro e w5 ⟨vp,rfl,hown,hb5⟩))
 obtain⟨gp,cp,cur,rfl,hgp,hrp,hcp,hcells⟩:=own_rowB hown (by rw[HM.out];have:=HM0.out;omega);have st5:=St.callNew st4 hb5 hgp hrp;rw[HM.out] at hcp hcells;rw[HM.out];have HCp:=Lib.hid hcells;have HCc:=Lib.hid hcp;clear st4 hb5 hgp hrp hown hcp hcells HPd HV HPl;go_upto_region 5 with (first | (fail "x"))
 go_loopw [6] (fun f wr=>∃x:Nat,x≤M∧f=.int .i64 (64*(x:Nat):Int)∧St w.heap.size w [(gp,cur,5),(bk,uv zAK,243),(b3,uv (zHI p x),244),(b2,kv zAH,38)] wr) (fun f _=>(64*(M:Nat) - intOf f).toNat)
 case atStart=>exact⟨0,Nat.zero_le _,rfl,st5⟩
 case round =>
  obtain⟨x,hx,rfl,st6⟩:=hrel;clear st5
  by_cases hlt:x<M
  ·have hxi:((x:Nat):Int)<(M:Nat):=by omega
   have hs1:∀wx,(Instr.slice 22 (.slice (some ⟨gp,0,none⟩) (64*M) cp) (some (.int .i64 (64*(x:Nat):Int))) (some (.int .i64 (64*(x:Nat)+64:Int))) none).run Tryz.prog wx=.ok (.slice (some ⟨gp,64*x,none⟩) 64 (cp - 64*x)) wx:=fun wx=>by
    have h:=run_slice_both zCC zCN (some ⟨gp,0,none⟩) (64*M) cp .i64 .i64 (64*x) (64*x+64) (by omega) (by have:=HCc.out;omega) wx;rw[show ((64*x:Nat):Int)=64*(x:Nat) by omega,show ((64*x+64:Nat):Int)=64*(x:Nat)+64 by omega,subA,if_neg (by have:=HCc.out;omega)] at h;refine h.trans ?_;simp[addPlain2]
   have hpl:(piece p x).length=64:=by have:=HM.out;unfold piece;simp;omega
   have hpb:∀y∈piece p x,y<256:=fun y hy=>HPb.out y (List.mem_of_mem_drop (List.mem_of_mem_take hy))
   have HSch:Hid (∀wx L,St w.heap.size w ((gp,cur,5)::L) wx→Calls Tryz.prog 131 #[.slice (some ⟨gp,64*x,none⟩) 64 (cp - 64*x)] wx fun e w'=>∃g c cw,e=.returned (.slice (some ⟨g,0,none⟩) 64 c)∧wx.heap.size≤g∧w'.heap[g]?=some (.cells cw 243 (0,0))∧HasW cw (zBS (piece p x) 64)∧Below wx.heap.size wx w'):=fun wx L stx=>by
    refine(schedule_calls (piece p x) _ wx hpl hpb ⟨by rw[hpl];decide,.inr ⟨gp,64*x,cp - 64*x,by rw[hpl],fun k hk=>?_⟩⟩).mono ?_
    ·rw[hpl] at hk
     rw[piece_get p x k hk];exact(stx.cell (i:=0) rfl _).trans (HCp.out _ (by omega))
    ·rintro e w' ⟨v',rfl,hown,hbel⟩
     obtain⟨g,c,cw,rfl,h1,h2,h3,h4⟩:=own_rowU hown (by decide);exact⟨g,c,cw,rfl,h1,h2,h4,hbel⟩
   have hS8:=statesR_len p x;have HS8:=Lib.hid hS8;have HNx:Hid (zHI p (x+1)=addS (zHI p x) (zIG (zGS (zHI p x)) (zBS (piece p x) 64) 64) 8):=rfl;have HS0:Hid (uv (zHI p x)=uv (zFI (zGS (zHI p x)))):=by unfold Hid;rw[toOf8 _ hS8]
   clear hpl hpb hS8;generalize zBS (piece p x) 64=W at *;generalize hSg:zHI p x=S at *;clear hSg;go_upto_region 10 with (first
    |(go_at_call 131;refine(HSch.out _ _ st6).mono ?_;rintro e w7 ⟨gw,cw,cwa,rfl,hgw,hrw,hcw,hb7⟩;have st7:=St.callNew st6 hb7 hgw hrw;clear st6 hb7 hgw hrw;have HW:=Lib.hid hcw;clear hcw)
    |((with_reducible refine zBA 244 ?_);refine zAC rfl 244 _ rfl b3 rfl _ aggEight rfl _ _ (st7.at (i:=3) rfl) (sizeEightOf HS8.out) ?_)
    |((with_reducible refine zAW 244 ?_);refine zAE st7 rfl 244 rfl _ zeroEight ?_;intro b8 w8 st8;clear st7)
    |((with_reducible refine zAN 244 ?_);refine zAA st8 rfl 244 _ _ rfl 0 b8 rfl (.agg (uv S)) rfl _ _ rfl (sizeEightOf HS8.out) (by show (uv S).size=_;rw[uv_size,HS8.out];rfl) (uv_one _) _ rfl ?_;intro w9 st9;clear st8;simp only[List.set_cons_zero] at st9))
   obtain⟨L0,hL0⟩:∃L0:List (Nat×Array Value×TypeId),L0=[(gw,cwa,243),(gp,cur,5),(bk,uv zAK,243),(b3,uv S,244),(b2,kv zAH,38)]:=⟨_,rfl⟩
   have HCW:Hid (∀wx cs k,k<64→St w.heap.size w ((b8,cs,244)::L0) wx→wx.cell? ⟨gw,k,none⟩=some (.int .u32 (W.getD k 0))∧wx.cell? ⟨bk,k,none⟩=some (.int .u32 (zAK.getD k 0))):=fun wx cs k hk stx=>by
    rw[hL0] at stx;exact⟨(stx.cell (i:=1) rfl k).trans (HW.out k hk),(stx.cell (i:=3) rfl k).trans (uv_get _ _ hk)⟩
   have st9':St w.heap.size w ((b8,uv (zFI (zIG (zGS S) W 0)),244)::L0) w9:=by
    rw[hL0]
    show St w.heap.size w ((b8,uv (zFI (zGS S)),244)::_) w9
    rw[←HS0.out];exact st9
   have HL0:=Lib.hid hL0;clear st9 hL0 HSch HW HS0;generalize zGS S=E at *
   go_loopw [9,10,11] (fun i _ _ wr=>∃k:Nat,k≤64∧i=.int .i64 (k:Nat)∧St w.heap.size w ((b8,uv (zFI (zIG E W k)),244)::L0) wr) (fun i _ _ _=>(64 - intOf i).toNat)
   case atStart=>exact⟨0,Nat.zero_le _,rfl,st9'⟩
   case round =>
    obtain⟨k,hk,rfl,st10⟩:=hrel;clear st9'
    by_cases hk64:k<64
    ·have hki:((k:Nat):Int)<64:=by omega
     have HNr:Hid (zIG E W (k+1)=roundR (zIG E W k) (zAK.getD k 0) (W.getD k 0)):=rfl;have q0:Hid (∀wx cs,St w.heap.size w ((b8,cs,244)::L0) wx→wx.cell? ⟨gw,k,none⟩=some (.int .u32 (W.getD k 0))∧wx.cell? ⟨bk,k,none⟩=some (.int .u32 (zAK.getD k 0))):=fun wx cs h=>HCW.out wx cs k hk64 h
     generalize zIG E W k=s at *;generalize zAK.getD k 0=K1 at *;generalize W.getD k 0=W1 at *;go_upto_region 12 with (first | (fail "x"))
     refine zBH 38 st10 zBL (by kernel_rfl) ?_;intro I hI hI';have q:∀wx,I wx→wx.cell? ⟨b8,0,none⟩=some (.int .u32 s.a)∧wx.cell? ⟨b8,1,none⟩=some (.int .u32 s.b)∧wx.cell? ⟨b8,2,none⟩=some (.int .u32 s.c)∧wx.cell? ⟨b8,3,none⟩=some (.int .u32 s.d)∧wx.cell? ⟨b8,4,none⟩=some (.int .u32 s.e)∧wx.cell? ⟨b8,5,none⟩=some (.int .u32 s.f)∧wx.cell? ⟨b8,6,none⟩=some (.int .u32 s.g)∧wx.cell? ⟨b8,7,none⟩=some (.int .u32 s.h)∧wx.cell? ⟨gw,k,none⟩=some (.int .u32 W1)∧wx.cell? ⟨bk,k,none⟩=some (.int .u32 K1):=fun wx hw=>by
      have h:=hI wx hw;have h2:=q0.out wx _ h;exact⟨h.cell (i:=0) rfl 0,h.cell (i:=0) rfl 1,h.cell (i:=0) rfl 2,h.cell (i:=0) rfl 3,h.cell (i:=0) rfl 4,h.cell (i:=0) rfl 5,h.cell (i:=0) rfl 6,h.cell (i:=0) rfl 7,h2.1,h2.2⟩
     simp only[List.take_succ_cons,List.take_zero,List.drop_succ_cons,List.drop_zero]
     iterate 4
      (refine Inv.wpInv_step (fun K hK=>?_);go_simp;apply zAL;· (intro wx hw;have q1:=q wx hw;go_simp;(try go_ints);(try go_simp);(try (rw[if_pos (by omega)]));(try go_simp);(first | done | rfl))
       refine hK _ ?_;clear hK K)
     (refine Inv.wpInv_step (fun K hK=>?_);go_simp;refine zDF hI hI' 132 #[.int .u32 s.e,.int .u64 6] ?_ (fun wx stx=>zEM s.e 6 (by decide) (by decide) wx) ?_;· (intro wx hw;go_simp)
      refine hK _ ?_;clear hK K)
     iterate 2
      (refine Inv.wpInv_step (fun K hK=>?_);go_simp;apply zAL;· (intro wx hw;have q1:=q wx hw;go_simp;(try go_ints);(try go_simp);(try (rw[if_pos (by omega)]));(try go_simp);(first | done | rfl))
       refine hK _ ?_;clear hK K)
     (refine Inv.wpInv_step (fun K hK=>?_);go_simp;refine zDF hI hI' 132 #[.int .u32 s.e,.int .u64 11] ?_ (fun wx stx=>zEM s.e 11 (by decide) (by decide) wx) ?_;· (intro wx hw;go_simp)
      refine hK _ ?_;clear hK K)
     iterate 3
      (refine Inv.wpInv_step (fun K hK=>?_);go_simp;apply zAL;· (intro wx hw;have q1:=q wx hw;go_simp;(try go_ints);(try go_simp);(try (rw[if_pos (by omega)]));(try go_simp);(first | done | rfl))
       refine hK _ ?_;clear hK K)
     (refine Inv.wpInv_step (fun K hK=>?_);go_simp;refine zDF hI hI' 132 #[.int .u32 s.e,.int .u64 25] ?_ (fun wx stx=>zEM s.e 25 (by decide) (by decide) wx) ?_;· (intro wx hw;go_simp)
      refine hK _ ?_;clear hK K)
     iterate 26
      (refine Inv.wpInv_step (fun K hK=>?_);go_simp;apply zAL;· (intro wx hw;have q1:=q wx hw;go_simp;(try go_ints);(try go_simp);(try (rw[if_pos (by omega)]));(try go_simp);(first | done | rfl))
       refine hK _ ?_;clear hK K)
     clear q hI hI';refine Inv.wpInv_nil ?_;intro w11 st11;clear st10;obtain⟨T1,hT1⟩:∃T1,T1=t1R s K1 W1:=⟨_,rfl⟩
     have HT1:=Lib.hid hT1;simp only[t1R,zFE,and32,not32] at hT1;rw[←hT1];clear hT1;go_upto_region 13 with (first | (fail "x"))
     refine zBH 30 st11 zBL (by kernel_rfl) ?_;intro I hI hI';have q:∀wx,I wx→wx.cell? ⟨b8,0,none⟩=some (.int .u32 s.a)∧wx.cell? ⟨b8,1,none⟩=some (.int .u32 s.b)∧wx.cell? ⟨b8,2,none⟩=some (.int .u32 s.c):=fun wx hw=>by
      have h:=hI wx hw;exact⟨h.cell (i:=0) rfl 0,h.cell (i:=0) rfl 1,h.cell (i:=0) rfl 2⟩
     simp only[List.take_succ_cons,List.take_zero,List.drop_succ_cons,List.drop_zero]
     iterate 2
      (refine Inv.wpInv_step (fun K hK=>?_);go_simp;apply zAL;· (intro wx hw;have q1:=q wx hw;go_simp;(try go_ints);(try go_simp);(try (rw[if_pos (by omega)]));(try go_simp);(first | done | rfl))
       refine hK _ ?_;clear hK K)
     (refine Inv.wpInv_step (fun K hK=>?_);go_simp;refine zDF hI hI' 132 #[.int .u32 s.a,.int .u64 2] ?_ (fun wx stx=>zEM s.a 2 (by decide) (by decide) wx) ?_;· (intro wx hw;go_simp)
      refine hK _ ?_;clear hK K)
     iterate 2
      (refine Inv.wpInv_step (fun K hK=>?_);go_simp;apply zAL;· (intro wx hw;have q1:=q wx hw;go_simp;(try go_ints);(try go_simp);(try (rw[if_pos (by omega)]));(try go_simp);(first | done | rfl))
       refine hK _ ?_;clear hK K)
     (refine Inv.wpInv_step (fun K hK=>?_);go_simp;refine zDF hI hI' 132 #[.int .u32 s.a,.int .u64 13] ?_ (fun wx stx=>zEM s.a 13 (by decide) (by decide) wx) ?_;· (intro wx hw;go_simp)
      refine hK _ ?_;clear hK K)
     iterate 3
      (refine Inv.wpInv_step (fun K hK=>?_);go_simp;apply zAL;· (intro wx hw;have q1:=q wx hw;go_simp;(try go_ints);(try go_simp);(try (rw[if_pos (by omega)]));(try go_simp);(first | done | rfl))
       refine hK _ ?_;clear hK K)
     (refine Inv.wpInv_step (fun K hK=>?_);go_simp;refine zDF hI hI' 132 #[.int .u32 s.a,.int .u64 22] ?_ (fun wx stx=>zEM s.a 22 (by decide) (by decide) wx) ?_;· (intro wx hw;go_simp)
      refine hK _ ?_;clear hK K)
     iterate 20
      (refine Inv.wpInv_step (fun K hK=>?_);go_simp;apply zAL;· (intro wx hw;have q1:=q wx hw;go_simp;(try go_ints);(try go_simp);(try (rw[if_pos (by omega)]));(try go_simp);(first | done | rfl))
       refine hK _ ?_;clear hK K)
     clear q hI hI';refine Inv.wpInv_nil ?_;intro w12 st12;clear st11;obtain⟨T2,hT2⟩:∃T2,T2=t2R s:=⟨_,rfl⟩
     have HT2:=Lib.hid hT2;simp only[t2R,zFE,and32] at hT2;rw[←hT2];clear hT2;have d0:w12.cell? ⟨b8,0,none⟩=some (.int .u32 s.a):=st12.cell (i:=0) rfl 0;have d1:w12.cell? ⟨b8,1,none⟩=some (.int .u32 s.b):=st12.cell (i:=0) rfl 1;have d2:w12.cell? ⟨b8,2,none⟩=some (.int .u32 s.c):=st12.cell (i:=0) rfl 2;have d3:w12.cell? ⟨b8,3,none⟩=some (.int .u32 s.d):=st12.cell (i:=0) rfl 3;have d4:w12.cell? ⟨b8,4,none⟩=some (.int .u32 s.e):=st12.cell (i:=0) rfl 4;have d5:w12.cell? ⟨b8,5,none⟩=some (.int .u32 s.f):=st12.cell (i:=0) rfl 5;have d6:w12.cell? ⟨b8,6,none⟩=some (.int .u32 s.g):=st12.cell (i:=0) rfl 6;have HB8:=Lib.hid (builtEight2 (roundR s K1 W1));have HP8:Hid ([(0,.int .u32 ((T1+T2)%4294967296)),(1,.int .u32 s.a),(2,.int .u32 s.b),(3,.int .u32 s.c),(4,.int .u32 ((s.d+T1)%4294967296)),(5,.int .u32 s.e),(6,.int .u32 s.f),(7,.int .u32 s.g)]=[(0,.int .u32 (roundR s K1 W1).a),(1,.int .u32 (roundR s K1 W1).b),(2,.int .u32 (roundR s K1 W1).c),(3,.int .u32 (roundR s K1 W1).d),(4,.int .u32 (roundR s K1 W1).e),(5,.int .u32 (roundR s K1 W1).f),(6,.int .u32 (roundR s K1 W1).g),((7:Nat),Value.int .u32 (roundR s K1 W1).h)]):=by unfold Hid;rw[HT1.out,HT2.out];rfl
     rw[←HNr.out] at HB8 HP8;generalize hs2:zIG E W (k+1)=s2 at *;have Hs2:=Lib.hid hs2;clear hs2
     go_wp2_with (first
      |((with_reducible refine zEG 244 ?_);refine zAM rfl 244 _ rfl _ (HP8.out▸(by simp[Act.eval];done)) _ HB8.out ?_)
      |((with_reducible refine zAN 244 ?_);refine zAA st12 rfl 244 _ _ rfl 0 b8 rfl (.agg (uv (zFI s2))) rfl _ _ rfl (sizeEightOf rfl) rfl (uv_one _) _ rfl ?_;intro w13 st13;clear st12 d0 d1 d2 d3 d4 d5 d6))
     go_roundw
     case rel=>exact⟨k+1,hk64,rfl,by rw[Hs2.out];exact st13⟩
     case measure=>simp[intOf];omega
    ·obtain rfl:k=64:=by omega
     clear hk hk64;generalize zIG E W 64=sF at *;rw[HL0.out,←addS_zero S sF HS8.out] at st10;clear HCW HL0;go_upto_region 16 with (first | (fail "x"))
     go_loopw [12] (fun i wr=>∃m:Nat,m≤8∧i=.int .i64 (m:Nat)∧St w.heap.size w [(b8,uv (zFI sF),244),(gw,cwa,243),(gp,cur,5),(bk,uv zAK,243),(b3,uv (addS S sF m),244),(b2,kv zAH,38)] wr) (fun i _=>(8 - intOf i).toNat)
     case atStart=>exact⟨0,Nat.zero_le _,rfl,st10⟩
     case round =>
      obtain⟨m,hm,rfl,st11⟩:=hrel;clear st10
      by_cases hm8:m<8
      ·have hmi:((m:Nat):Int)<8:=by omega
       have hX:(uv (addS S sF m))[m]?=some (.int .u32 (S.getD m 0)):=by rw[uv_get _ _ (by rw[addS_len];exact hm8),addS_get S sF m hm8]
       have hY:(uv (zFI sF))[m]?=some (.int .u32 ((zFI sF).getD m 0)):=uv_get _ _ hm8;have HX:=Lib.hid hX;have HY:=Lib.hid hY;have Hrow:Hid ((uv (addS S sF m)).setIfInBounds m (.int .u32 (add32 (S.getD m 0) ((zFI sF).getD m 0)))=uv (addS S sF (m+1))):=by unfold Hid;rw[uv_set,addS_set]
       have Hsz:Hid (m<(uv (addS S sF m)).size):=by unfold Hid;rw[uv_size,addS_len];exact hm8
       clear hX hY;generalize S.getD m 0=X at *;generalize (zFI sF).getD m 0=Y at *;go_upto_region 18 with (first | (fail "x"))
       refine zBH 8 st11 zBL (by kernel_rfl) ?_;intro I hI hI';have q:∀wx,I wx→wx.cell? ⟨b3,m,none⟩=some (.int .u32 X)∧wx.cell? ⟨b8,m,none⟩=some (.int .u32 Y):=fun wx hw=>⟨((hI wx hw).cell (i:=4) rfl m).trans HX.out,((hI wx hw).cell (i:=0) rfl m).trans HY.out⟩
       simp only[List.take_succ_cons,List.take_zero,List.drop_succ_cons,List.drop_zero]
       iterate 8
        (refine Inv.wpInv_step (fun K hK=>?_);go_simp;apply zAL;· (intro wx hw;have q1:=q wx hw;go_simp;(try go_ints);(try go_simp);(try (rw[if_pos (by omega)]));(try go_simp);(first | done | rfl))
         refine hK _ ?_;clear hK K)
       clear q hI hI';refine Inv.wpInv_nil ?_;intro w12 st12;clear st11
       go_wp2_with (first
        |((with_reducible refine zAN 243 ?_);refine zDG st12 rfl 243 _ _ rfl 4 b3 m rfl (.int .u32 (add32 X Y)) rfl _ _ rfl zID rfl Hsz.out rfl _ Hrow.out _ rfl ?_;intro w13 st13;clear st12))
       go_roundw
       case rel =>
        (repeat apply Exists.intro)
        refine⟨⟨m+1,hm8,rfl,st13⟩,?_⟩;rfl
       case measure=>simp[intOf];omega
      ·obtain rfl:m=8:=by omega
       rw[←HNx.out] at st11;have st12:=st11.drop.drop;clear hm hm8 st11 HNx;go_wp2;go_roundw
       case rel=>exact⟨x+1,hlt,by simp;omega,st12⟩
       case measure=>simp[intOf];omega
  ·obtain rfl:x=M:=by omega
   have hS8:=Lib.hid (statesR_len p x);generalize zHI p x=S at *;go_upto_region 21 with (first
    |((with_reducible refine zAW 38 ?_);refine zAE st6 rfl 38 rfl _ zCG ?_;intro b13 w7 st7;clear st6))
   rw[←outI_zero S] at st7
   go_loopw [14] (fun i wr=>∃k:Int,0≤k∧k≤32∧i=.int .i64 k∧St w.heap.size w [(b13,kv (outI S k.toNat),38),(gp,cur,5),(bk,uv zAK,243),(b3,uv S,244),(b2,kv zAH,38)] wr) (fun i _=>(32 - intOf i).toNat)
   case atStart=>exact⟨0,by omega,by omega,rfl,st7⟩
   case round =>
    obtain⟨k,k0,k1,rfl,st8⟩:=hrel;clear st7
    by_cases hlt:k<32
    ·have hcW:wr.cell? ⟨b3,(k / 4).toNat,none⟩=some (.int .u32 (S.getD (k / 4).toNat 0)):=by
      rw[st8.cell (i:=3) rfl (k / 4).toNat,uv_get _ _ (by have:=hS8.out;omega)]
     have Hrow:Hid ((kv (outI S k.toNat)).setIfInBounds k.toNat (.int .u8 (S.getD (k / 4).toNat 0 / 2^(24 - 8*(k%4)).toNat%256))=kv (outI S (k+1).toNat)):=by
      unfold Hid;rw[show (k+1).toNat=k.toNat+1 by omega,←outI_set,←kv_set,outB,show (k / 4).toNat=k.toNat / 4 by omega,show (24 - 8*(k%4)).toNat=24 - 8*(k.toNat%4) by omega,Int.toNat_of_nonneg (Int.emod_nonneg _ (by decide))]
     have Hsz:Hid (k.toNat<(kv (outI S k.toNat)).size):=by unfold Hid;rw[zAF,outI_len];omega
     generalize S.getD (k / 4).toNat 0=X at *
     go_wp2_with (first
      |((with_reducible refine zAN 5 ?_);refine zDG st8 rfl 5 _ _ rfl 0 b13 k.toNat rfl (.int .u8 (X / 2^(24 - 8*(k%4)).toNat%256)) rfl _ _ rfl zCN rfl Hsz.out rfl _ Hrow.out _ rfl ?_;intro w9 st9;clear st8))
     go_roundw
     case rel=>exact⟨k+1,by omega,by omega,rfl,st9⟩
     case measure=>simp[intOf];omega
    ·obtain rfl:k=32:=by omega
     have Hf:Hid (outI S (32:Int).toNat=sumR l):=by unfold Hid;rw[HF.out];rfl
     rw[Hf.out] at st8;have Hl2:Hid ((sumR l).length=32):=by unfold Hid;exact outI_len _ _
     clear HF Hf;generalize hR:sumR l=R at *
     go_wp2_with (first
      |((with_reducible refine zBA 38 ?_);refine zAC rfl 38 _ rfl b13 rfl _ zEE rfl _ _ (st8.at (i:=0) rfl) (zCA Hl2.out) ?_)
      |((with_reducible refine zAN 38 ?_);refine zAA st8 rfl 38 _ _ rfl 4 b2 rfl (.agg (kv R)) rfl _ _ rfl (zCA Hl2.out) (by show (kv R).size=_;rw[zAF,Hl2.out,zAF];rfl) (zBJ R) _ rfl ?_;intro w9 st9;clear st8))
     exact zBX rfl b2 _ _ _ rfl (st9.at (i:=4) rfl) zEE rfl (zCA Hl2.out) rfl ⟨rfl,st9.below⟩
end
end Go.Proofs.YtlcngapphloafaaGreatDoor
