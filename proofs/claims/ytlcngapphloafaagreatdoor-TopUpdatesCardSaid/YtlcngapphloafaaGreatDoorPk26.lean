/- Parts of the proof that are used by the claim: Tr10, TBad. No condition is added here. -/
import Derived.Test.YtlcngapphloafaaGreatDoorPk25
import Derived.Test.YtlcngapphloafaaGreatDoorPk2
namespace Go.Proofs.YtlcngapphloafaaGreatDoor
section
set_option maxHeartbeats 2000000
open Go Go.RowKit
attribute [local irreducible] Inv.wpInv Mix.wpUp
def isData:Value→Prop
 |.int .u8 _=>True
 |.slice _ _ _=>True
 |.bool _=>True
 |_=>False
def DataKept(w w':World):Prop:=∀(b off:Nat) v,isData v→w.cell? ⟨b,off,none⟩=some v→w'.cell? ⟨b,off,none⟩=some v
theorem DataKept.trans{w w1 w2:World}(h:DataKept w w1)(h':DataKept w1 w2):DataKept w w2:=fun b off v hv hc=>h' b off v hv (h b off v hv hc)
theorem DataKept.call{w w':World}(h:Below w.heap.size w w'):DataKept w w':=fun b off v _ hc=>by rw[h.cell (zAS hc)];exact hc
theorem DataKept.row{w w':World}{b:Nat}{cs:Array Value}{ty:TypeId}{fr:Nat×Nat}(hrow:w.heap[b]?=some (.cells cs ty fr))(hcs:∀(i:Nat)(v:Value),cs[i]?=some v→¬isData v)(hg:w.grownBy w' (some b)):DataKept w w':=fun a off v hv hc=>by
 refine(World.cell?_of_block (w:=w) (hg.block a (zAS hc) ?_)).trans hc;intro e;obtain rfl:a=b:=Option.some.inj e;simp only[World.cell?,hrow,Option.isSome_none,Bool.false_eq_true,if_false] at hc;exact hcs _ _ hc hv
theorem DataKept.turn{w w':World}{hb cb:Nat}{bits n:Int}(hh:HasH hb cb bits n w)(hg:w.grownBy w' (some cb)):DataKept w w' :=
 DataKept.row hh.c (fun i v hi hv=>by rcases i with _ | i<;>simp at hi;subst hi;exact hv) hg
theorem DataKept.tree{w w':World}{tb hb:Nat}{r:Option Addr}(ht:HasTr tb hb r w)(hg:w.grownBy w' (some tb)):DataKept w w' :=
 DataKept.row ht (fun i v hi hv=>by
  rcases i with _ | _ | i<;>simp at hi
  ·subst hi;exact hv
  ·subst hi;exact hv) hg
theorem RdB.data{w w':World}{v:Value}{x:List Nat}(h:RdB w v x)(hd:DataKept w w'):RdB w' v x:=by
 refine⟨h.1,?_⟩;rcases h.2 with h | ⟨b',off,cap,hv,hcc⟩
 ·exact .inl h
 ·exact .inr ⟨b',off,cap,hv,fun i hi=>hd _ _ _ trivial (hcc i hi)⟩
set_option maxRecDepth 20000 in
theorem PutT_calls(KK:List Int)(k l:List Nat)(t:Tr)(p a:Option Addr)(c:Nat)(hb cb:Nat)(bits n:Int)(w:World)(hh:HasH hb cb bits n w)(hB:0≤bits∧bits≤256)(hn:0≤n∧n≤3999999999999980000)
  (hk:Key k) (hby:∀x∈l,x<256) (hl:l.length≤100000) (hv:RdB w (.slice a l.length c) l) (hK:HasK KK w) (ht:RepT KK bits w p t) (hw:wayOK k 0 t) :
  Calls Tryz.prog 48 #[.pointer (some ⟨hb,0,none⟩),.pointer p,.agg (zAV k (.slice a l.length c))] w (TPost KK bits hb cb n 2000 (zJK k l 0 t) w):=by
 have HH:=Lib.hid hh;have HV:=Lib.hid hv;have HKK:=Lib.hid hK;have HT:=Lib.hid ht;have HN:=Lib.hid (fun wx h1 h2 h3 h4=>At_calls KK k l t p a c hb cb bits n wx h1 hB hn hk hby hl h2 h3 h4 hw);have HES:=Lib.hid (zBM k (.slice a l.length c) hk.len);have HE:=Lib.hid (fun (e:Ending) (w' w1:World) (st1:StH w cb n [] w1) (h:TPost KK bits hb cb n 2000 (zJK k l 0 t) w1 e w')=>TPost.after (n:=n) (c:=2000) (StH.grown st1) (Int.le_refl _) (by omega) h);obtain⟨dE,hdE,haE⟩:=zFR;clear hh hv hK hB hn hk hby hl ht hw;have st:=St.init w;generalize zAV k (.slice a l.length c)=ec at *;generalize TPost KK bits hb cb n 2000 (zJK k l 0 t) w=R at *;go_enter Tryz.func48,Tryz.ntmps48
 go_wp2_with (first
  |(refine zAD st rfl 52 _ rfl ec rfl ?_;intro b5 w2 st2;clear st;have st6:=StH.init HH.out st2)
  |(refine zAC rfl 52 _ rfl b5 rfl _ hdE haE _ _ (st2.at (i:=0) rfl) (zBU HES.out) ?_)
  |(go_at_call 90;refine(HN.out _ (StH.has st6 HH.out) (StH.rd st6 HH.out HV.out) (StH.hasK st6 HH.out HKK.out) (StH.rep st6 HH.out HT.out)).mono ?_;rintro e w7 h7;have h8:=HE.out _ _ _ (StH.init HH.out st2.drop) h7;obtain⟨p7,n7,rfl,_⟩:=h7))
 exact h8
def TrPost(KK:List Int)(bits:Int)(tb hb cb:Nat)(n c:Int)(T:Tr)(v:Value)(w:World)(e:Ending)(w':World):Prop :=
 ∃p n',e=.returned v∧HasTr tb hb p w'∧RepT KK bits w' p T∧HasH hb cb bits n' w'∧n≤n'∧n'≤n+c∧DataKept w w'∧w.heap.size≤w'.heap.size∧∀B,B≤tb→B≤cb→Below B w w'
set_option maxRecDepth 20000 in
theorem TPutT_calls(KK:List Int)(tb:Nat)(k l:List Nat)(t:Tr)(p:Option Addr)(vk:Value)(a:Option Addr)(c:Nat)(hb cb:Nat)(bits n:Int)(w:World)(ht:HasTr tb hb p w)(hh:HasH hb cb bits n w)(hB:0≤bits∧bits≤256)(hn:0≤n∧n≤3999999999999980000)
  (hk:Key k) (hby:∀x∈l,x<256) (hl:l.length≤65535) (hvk:RdB w vk k) (hv:RdB w (.slice a l.length c) l) (hK:HasK KK w) (hr:RepT KK bits w p t) (hw:wayOK k 0 t) :
  Calls Tryz.prog 20 #[.pointer (some ⟨tb,0,none⟩),vk,.slice a l.length c] w (TrPost KK bits tb hb cb n 2000 (zJK k l 0 t) .nilIface w):=by
 have HT:=Lib.hid ht;have HR:=Lib.hid hr;have HH:=Lib.hid hh;have HV:=Lib.hid hv;have HVK:=Lib.hid hvk;have HKK:=Lib.hid hK;have HS:=Lib.hid (fun wx h=>start_ok tb (String.toUTF8 "put") k vk hk.len a l.length c hl wx h);have HN:=Lib.hid (fun wx h1 h2 h3 h4=>PutT_calls KK k l t p a c hb cb bits n wx h1 hB hn hk hby (by omega) h2 h3 h4 hw);have HES:=Lib.hid (zBM k (.slice a l.length c) hk.len);have HE1:=Lib.hid (zCM k a l.length c);obtain⟨dE,hdE,haE⟩:=zFR;obtain⟨ze,hze,hz0⟩:=zEA;clear ht hh hv hvk hK hB hn hk hby hl hr hw;have st:=St.init w;generalize zAV k (.slice a l.length c)=ec at *;generalize l.length=ln at *;generalize zJK k l 0 t=T at *;have HPo:Hid (∀(w':World)(p':Option Addr) (n':Int),HasTr tb hb p' w'→RepT KK bits w' p' T→HasH hb cb bits n' w'→n≤n'→n'≤n+2000→DataKept w w'→w.heap.size≤w'.heap.size→(∀B,B≤tb→B≤cb→Below B w w')→TrPost KK bits tb hb cb n 2000 T .nilIface w (.returned .nilIface) w'):=fun w' p' n' h1 h2 h3 h4 h5 h6 h7 h8=>⟨p',n',rfl,h1,h2,h3,h4,h5,h6,h7,h8⟩
 generalize TrPost KK bits tb hb cb n 2000 T .nilIface w=R at *;go_enter Tryz.func20,Tryz.ntmps20
 go_wp2_with (first
  |(go_at_call 47;refine(HS.out _ HVK.out).mono ?_;rintro e w1 ⟨rfl,hbel⟩;have st1:=St.call st hbel;clear st hbel)
  |(refine zAE st1 rfl 52 rfl _ hz0 ?_;intro b7 w2 st2;clear st1)
  |(refine zAA st2 rfl 52 _ _ rfl 0 b7 rfl (.agg ec) rfl _ _ rfl (zBU HES.out) (by show ec.size=_;rw[HES.out,hze]) HE1.out _ rfl ?_;intro w3 st3;clear st2;have st4:=StH.init HH.out st3))
 have st4':StH w cb n [(b7,ec,52)] w3:=st4;clear st3 st4;have q:∀wx,(∃m,StH w cb m [(b7,ec,52)] wx)→wx.cell? ⟨tb,0,none⟩=some (.pointer (some ⟨hb,0,none⟩))∧wx.cell? ⟨tb,1,none⟩=some (.pointer p):=fun wx ⟨_,hw⟩=>by
  have h:=HT.out.turn HH.out (StH.grown hw);exact⟨h.cell0,h.cell1⟩
 refine Mix2.wp_region_mix (J:=fun wx=>∃m,StH w cb m [(b7,ec,52)] wx) 11 (StH w cb n [(b7,ec,52)]) zBL (by kernel_rfl) st4'.drew ?_;intro F inv;refine Mix2.good_batch (f:=1) F St.up (fun _ h=>⟨_,h⟩) [0,1,2,3,4,5,6,7,8,9] _ _ inv (by kernel_rfl) ?_;clear inv st4'
 iterate 9
  (refine Mix.wpUp_cons rfl (fun K hK=>?_);go_simp;apply zAU;· (intro wx hw;have q1:=q wx hw;go_simp;(try go_ints);(try go_simp);(try (rw[if_pos (by omega)]));(try go_simp);(first | done | rfl))
   refine hK _ ?_;clear hK K)
 (refine Mix.wpUp_cons rfl (fun K hK=>?_);go_simp;refine zFB 52 _ rfl b7 rfl _ hdE haE _ _ (fun wx hw=>hw.choose_spec.at (i:=0) rfl) (zBU HES.out) ?_
  refine hK _ ?_;clear hK K)
 refine Mix.wpUp_nil ?_;intro inv;refine Mix2.good_one (i:=10) (f:=0) (by kernel_rfl) inv (fun w6 st6=>?_);clear inv q;refine zAT rfl rfl 48 #[.pointer (some ⟨hb,0,none⟩),.pointer p,.agg ec] (by go_simp) ?_;refine(HN.out _ (StH.has st6 HH.out) (StH.rd st6 HH.out HV.out) (StH.hasK st6 HH.out HKK.out) (StH.rep st6 HH.out HR.out)).mono ?_;rintro e w7 ⟨p7,n7,rfl,hr7,hg,hh7,ha7,hb7⟩;have st7:=StH.sum st6 HH.out hg hh7;refine⟨_,rfl,fun wx=>StH w cb n7 [(b7,ec,52)] wx∧RepT KK bits wx p7 T,?_,⟨st7,hr7⟩,fun _ h=>⟨_,h.1⟩,fun inv=>?_⟩
 ·exact fun wx wy h hb=>⟨St.call h.1 hb,h.2.call hb⟩
 clear st6 hg hr7 st7 hh7 inv F w6 w7;refine⟨by kernel_rfl,fun w7 ⟨st7,hr7⟩=>?_⟩;have ht7:=HT.out.turn HH.out (StH.grown st7);have hh7:=StH.has st7 HH.out;have HR7:=Lib.hid hr7;clear hr7;simp only[List.drop_succ_cons,List.drop_zero,Act.put,List.getElem_toArray,List.getElem_cons_succ,List.getElem_cons_zero,List.setIfInBounds_toArray,List.set_cons_succ,List.set_cons_zero]
 go_wp2_with (first
  |(refine zDR rfl 59 _ _ rfl tb 1 rfl (.pointer p7) rfl _ _ ht7 zFU rfl (by simp) rfl _ rfl ?_;intro w8 hg8 ht8))
 have htl:=zAG HT.out;exact HPo.out _ p7 n7 ht8 (HR7.out.box ht7 (by decide) (fun i x=>by rcases i with _ | _ | i<;>simp) hg8) (hh7.keep ht7 hg8) ha7 hb7
  ((DataKept.turn HH.out (StH.grown st7)).trans (DataKept.tree ht7 hg8)) (Nat.le_trans (StH.grown st7).size hg8.size)
  (fun B h1 h2=>(zCY (StH.grown st7) (zAG HH.out.c) h2).trans (zCY hg8 (zAG ht7) h1))
end
section
set_option maxHeartbeats 2000000
open Go Go.RowKit
attribute [local irreducible] Inv.wpInv Mix.wpUp
theorem builtKeyZ:Tryz.prog.built 37 []=some (kv zAH):=by kernel_rfl
set_option maxRecDepth 20000 in
theorem KeyOf_bad(a:Option Addr)(n c:Nat)(hn:n≠32)(w:World) :
  Calls Tryz.prog 139 #[.slice a n c] w fun e w'=>e=.returned (.tuple #[.agg (kv zAH),.int .i64 2])∧Below w.heap.size w w':=by
 have st:=St.init w;have hni:((n:Nat):Int)≠32:=by omega
 have HB:=Lib.hid builtKeyZ;have Hz:Hid (zAH.length=32):=by unfold Hid zAH;simp
 go_enter Tryz.func139,Tryz.ntmps139
 go_wp2_with (first
  |((with_reducible refine zAW 37 ?_);refine zAE st rfl 37 rfl _ zEL ?_;intro b2 w1 st1;clear st)
  |((with_reducible refine zEG 37 ?_);refine zAM rfl 37 _ rfl [] ?_ _ HB.out ?_;(·(simp[Act.eval];done)))
  |((with_reducible refine zAN 37 ?_);refine zAA st1 rfl 37 _ _ rfl 0 b2 rfl (.agg (kv zAH)) rfl _ _ rfl (zAX Hz.out) (by show (kv zAH).size=_;first | rfl | (rw[zAF,Hz.out,zAF];rfl)) (zBJ _) _ rfl ?_;intro w4 st4;clear st1))
 exact zEP rfl b2 _ _ zBN rfl (st4.at (i:=0) rfl) (zAX Hz.out) _ rfl rfl ⟨rfl,st4.below⟩
def BadKV(l n:Nat):Prop:=l≠32∨65535<n
def EntBad(w:World)(e:Ending)(w':World):Prop:=∃(ec:Array Value) (code:Int),e=.returned (.tuple #[.agg ec,.int .i64 code])∧ec.size=33∧(∀u∈ec.toList,u.oneCell'=true)∧(code=2∨code=3)∧Below w.heap.size w w'
set_option maxRecDepth 20000 in
theorem entry_bad(kl:List Nat)(v:Value)(a:Option Addr)(n c:Nat)(hn:n≤1000000)(w:World)(hv:RdB w v kl)(hbad:BadKV kl.length n) :
  Calls Tryz.prog 89 #[v,.slice a n c] w (EntBad w):=by
 have HP:Hid (∀(ec:Array Value)(code:Int) (w':World),ec.size=33→(∀u∈ec.toList,u.oneCell'=true)→(code=2∨code=3)→Below w.heap.size w w'→EntBad w (.returned (.tuple #[.agg ec,.int .i64 code])) w'):=fun ec code w' h1 h2 h3 h4=>⟨ec,code,rfl,h1,h2,h3,h4⟩
 generalize EntBad w=R at *;have HV:=Lib.hid hv;have Hni:Hid (((n:Nat):Int)≤1000000):=by unfold Hid;omega
 by_cases hk:kl.length=32
 ·have hn':65535<n:=hbad.resolve_left (fun h=>h hk)
  have hni:(65535:Int)<(n:Nat):=by omega
  have HO:=Lib.hid (fun wx h=>KeyOf_calls kl v hk wx h);have Hk:=Lib.hid hk;have HB:=Lib.hid (zIT kl a n c hk);have HS:=Lib.hid (zBM kl (.slice a n c) hk);have H1:=Lib.hid (zCM kl a n c);obtain⟨ze,hze,hz0⟩:=zEA;clear hv hbad hn hk;generalize zAV kl (.slice a n c)=ec at *;have st:=St.init w;go_enter Tryz.func89,Tryz.ntmps89
  go_wp2_with (first
   |((with_reducible refine zAW 52 ?_);refine zAE st rfl 52 rfl _ hz0 ?_;intro b4 w1 st1;clear st)
   |(go_at_call 139;refine(HO.out _ (HV.out.call st1.below)).mono ?_;rintro e w2 ⟨rfl,hbel⟩;have st2:=st1.call hbel;clear st1 hbel)
   |((with_reducible refine zAW 37 ?_);refine zAE st2 rfl 37 rfl _ zEL ?_;intro b6 w3 st3;clear st2)
   |((with_reducible refine zAN 37 ?_);refine zAA st3 rfl 37 _ _ rfl 0 b6 rfl (.agg (kv kl)) rfl _ _ rfl (zAX Hk.out) (by show (kv kl).size=_;rw[zAF,Hk.out,zAF];rfl) (zBJ _) _ rfl ?_;intro w4 st4;clear st3)
   |((with_reducible refine zBA 37 ?_);refine zAC rfl 37 _ rfl b6 rfl _ zBF rfl _ _ (st4.at (i:=0) rfl) (zAX Hk.out) ?_)
   |((with_reducible refine zEG 52 ?_);refine zAM rfl 52 _ rfl (zBB 0 [.agg (kv kl),.slice a n c]) ?_ _ HB.out ?_;(·(simp[Act.eval,zBB];done)))
   |((with_reducible refine zAN 52 ?_);refine zAA st4 rfl 52 _ _ rfl 1 b4 rfl (.agg ec) rfl _ _ rfl (by show _=some ec.size;rw[HS.out];exact zDB) (by show ec.size=_;rw[HS.out,hze]) H1.out _ rfl ?_;intro w5 st5;clear st4))
  exact zEP rfl b4 _ _ zFR rfl (st5.at (i:=1) rfl) (by show _=some ec.size;rw[HS.out];exact zDB) _ rfl rfl (HP.out _ _ _ HS.out H1.out (.inr rfl) st5.below)
 ·obtain⟨va,vc,rfl,_⟩:=hv.open
  have HO:=Lib.hid (fun wx=>KeyOf_bad va kl.length vc hk wx);have Hk:Hid (zAH.length=32):=by unfold Hid zAH;simp
  have HB:=Lib.hid (zIT zAH a n c Hk.out);have HS:=Lib.hid (zBM zAH (.slice a n c) Hk.out);have H1:=Lib.hid (zCM zAH a n c);obtain⟨ze,hze,hz0⟩:=zEA;clear hv hbad hn hk;generalize zAV zAH (.slice a n c)=ec at *;have st:=St.init w;go_enter Tryz.func89,Tryz.ntmps89
  go_wp2_with (first
   |((with_reducible refine zAW 52 ?_);refine zAE st rfl 52 rfl _ hz0 ?_;intro b4 w1 st1;clear st)
   |(go_at_call 139;refine(HO.out _).mono ?_;rintro e w2 ⟨rfl,hbel⟩;have st2:=st1.call hbel;clear st1 hbel)
   |((with_reducible refine zAW 37 ?_);refine zAE st2 rfl 37 rfl _ zEL ?_;intro b6 w3 st3;clear st2)
   |((with_reducible refine zAN 37 ?_);refine zAA st3 rfl 37 _ _ rfl 0 b6 rfl (.agg (kv zAH)) rfl _ _ rfl (zAX Hk.out) (by show (kv zAH).size=_;first | rfl | (rw[zAF,Hk.out,zAF];rfl)) (zBJ _) _ rfl ?_;intro w4 st4;clear st3)
   |((with_reducible refine zBA 37 ?_);refine zAC rfl 37 _ rfl b6 rfl _ zBF rfl _ _ (st4.at (i:=0) rfl) (zAX Hk.out) ?_)
   |((with_reducible refine zEG 52 ?_);refine zAM rfl 52 _ rfl (zBB 0 [.agg (kv zAH),.slice a n c]) ?_ _ HB.out ?_;(·(simp[Act.eval,zBB];done)))
   |((with_reducible refine zAN 52 ?_);refine zAA st4 rfl 52 _ _ rfl 1 b4 rfl (.agg ec) rfl _ _ rfl (by show _=some ec.size;rw[HS.out];exact zDB) (by show ec.size=_;rw[HS.out,hze]) H1.out _ rfl ?_;intro w5 st5;clear st4))
  exact zEP rfl b4 _ _ zFR rfl (st5.at (i:=1) rfl) (by show _=some ec.size;rw[HS.out];exact zDB) _ rfl rfl (HP.out _ _ _ HS.out H1.out (.inl rfl) st5.below)
theorem IsErr.turn{w w':World}{b:Nat}{cs:Array Value}{ty:TypeId}{fr:Nat×Nat}(hrow:w.heap[b]?=some (.cells cs ty fr))(ht:ty≠210)(hg:w.grownBy w' (some b)):∀{l:List (ByteArray×Int)} {v core:Value},IsErr w v l core→IsErr w' v l core
 |[],_,_,h=>h
 |_::_,_,_,⟨b',inner,hv,hc,hi⟩=>⟨b',inner,hv,(hg.block b' (zAG hc) (fun e=>by
   obtain rfl:b'=b:=Option.some.inj e;rw[hrow] at hc;injection hc with hc;injection hc with _ h2 _;exact ht h2)).trans hc,IsErr.turn hrow ht hg hi⟩
theorem miErrno(c:Int)(w:World):(Instr.makeInterface 31 (.int .i64 c)).run Tryz.prog w=.ok (.iface 31 (.int .i64 c)) w:=by kernel_rfl
set_option maxRecDepth 20000 in
theorem fail_bad(op:ByteArray)(at' code:Int)(hc:code≠0)(w:World) :
  Calls Tryz.prog 88 #[.string op,.int .i64 at',.int .i64 code] w fun e w'=>∃v,e=.returned v∧IsErr w' v [(op,at')] (.iface 31 (.int .i64 code))∧Below w.heap.size w w':=by
 have HN:=Lib.hid (fun wx=>zJJ op at' 31 (.int .i64 code) wx);have hcb:(code==0)=false:=by simp[hc]
 have hm:=miErrno code;go_enter Tryz.func88,Tryz.ntmps88
 go_wp2_with (first
  |(go_at_call 58;refine(HN.out _).mono ?_;rintro e w2 ⟨b,rfl,hb,hrow,hbel⟩;have Hrow:=Lib.hid hrow;clear hrow))
 go_ret;exact⟨_,rfl,⟨b,_,rfl,Hrow.out,rfl⟩,hbel⟩
def StartBad(op:ByteArray)(w:World)(e:Ending)(w':World):Prop:=∃(ec:Array Value) (v:Value) (code:Int),e=.returned (.tuple #[.agg ec,v])∧ec.size=33∧(∀u∈ec.toList,u.oneCell'=true)∧IsErr w' v [(op,0)] (.iface 31 (.int .i64 code))∧Below w.heap.size w w'
set_option maxRecDepth 20000 in
theorem start_bad(tb:Nat)(op:ByteArray)(kl:List Nat)(v:Value)(a:Option Addr)(n c:Nat)(hn:n≤1000000)(w:World)(hv:RdB w v kl)(hbad:BadKV kl.length n) :
  Calls Tryz.prog 47 #[.pointer (some ⟨tb,0,none⟩),.string op,v,.slice a n c] w (StartBad op w):=by
 have HP:Hid (∀(ec:Array Value)(v:Value) (code:Int) (w':World),ec.size=33→(∀u∈ec.toList,u.oneCell'=true)→IsErr w' v [(op,0)] (.iface 31 (.int .i64 code))→Below w.heap.size w w'→StartBad op w (.returned (.tuple #[.agg ec,v])) w'):=fun ec v code w' h1 h2 h3 h4=>⟨ec,v,code,rfl,h1,h2,h3,h4⟩
 generalize StartBad op w=R at *;have HE:=Lib.hid (fun wx h=>entry_bad kl v a n c hn wx h hbad);have HV:=Lib.hid hv;obtain⟨ze,hze,hz0⟩:=zEA;obtain⟨dE,hdE,haE⟩:=zFR;clear hv hbad hn;have st:=St.init w;go_enter Tryz.func47,Tryz.ntmps47
 go_wp2_with (first
  |((with_reducible refine zAW 52 ?_);first
    |(refine zAE st rfl 52 rfl _ hz0 ?_;intro b8 w1 st1;clear st)
    |(refine zAE st2 rfl 52 rfl _ hz0 ?_;intro b10 w3 st3;clear st2))
  |(go_at_call 89;refine(HE.out _ (HV.out.call st1.below)).mono ?_;rintro e w2 ⟨ec,code,rfl,hes,he1,hcode,hbel⟩;have st2:=st1.call hbel;have HS:=Lib.hid hes;have H1:=Lib.hid he1;clear st1 hbel hes he1)
  |((with_reducible refine zAN 52 ?_);refine zAA st3 rfl 52 _ _ rfl 0 b10 rfl (.agg ec) rfl _ _ rfl (zBU HS.out) (by show ec.size=_;rw[HS.out,hze]) H1.out _ rfl ?_;intro w4 st4;clear st3))
 have HF:=Lib.hid (fun wx=>fail_bad op 0 code (by omega) wx);refine Mix.wp_region_mix 4 (St w.heap.size w [(b10,ec,52),(b8,ze,52)]) zBL (by kernel_rfl) st4.drew ?_;intro F inv;refine Mix.good_batch (f:=1) F St.up [0,1,2] _ _ inv (by kernel_rfl) ?_;clear inv
 (refine Mix.wpUp_cons rfl (fun K hK=>?_);go_simp;refine zFB 52 _ rfl b10 rfl _ hdE haE _ _ (fun wx hw=>hw.at (i:=0) rfl) (zBU HS.out) ?_
  refine hK _ ?_;clear hK K)
 iterate 2
  (refine Mix.wpUp_cons rfl (fun K hK=>?_);go_simp;apply zAU;· (intro wx hw;go_simp;(try go_ints);(try go_simp);(try (rw[if_pos (by omega)]));(try go_simp);(first | done | rfl))
   refine hK _ ?_;clear hK K)
 refine Mix.wpUp_nil ?_;intro inv;refine Mix.good_one (i:=3) (f:=0) (by kernel_rfl) inv (fun w6 st6=>?_);clear inv;refine zAT rfl rfl 88 #[.string op,.int .i64 0,.int .i64 code] (by go_simp) ?_;refine(HF.out _).mono ?_;rintro e w7 ⟨v7,rfl,her,hb7⟩;refine⟨_,rfl,fun wx=>St w.heap.size w [(b10,ec,52),(b8,ze,52)] wx∧IsErr wx v7 [(op,0)] (.iface 31 (.int .i64 code))∧wx.heap.size≤wx.heap.size,fun _ _ h hb=>⟨St.call h.1 hb,h.2.1.call hb,Nat.le_refl _⟩,⟨St.call st6 hb7,her,Nat.le_refl _⟩,fun _ h=>h.1,fun inv=>?_⟩;clear st6 her hb7 inv F st4;refine⟨by kernel_rfl,fun w8 ⟨st8,her8,_⟩=>?_⟩;have Her:=Lib.hid her8;have hrow8:=st8.at (i:=1) rfl;clear her8;simp only[List.drop_succ_cons,List.drop_zero,Act.put,List.getElem_toArray,List.getElem_cons_succ,List.getElem_cons_zero,List.setIfInBounds_toArray,List.set_cons_succ,List.set_cons_zero]
 go_wp2_with (first
  |((with_reducible refine zAN 52 ?_);refine zCW st8 rfl 52 _ _ rfl 1 b8 rfl (.agg ec) rfl _ _ rfl (zBU HS.out) (by show ec.size=_;rw[HS.out,hze]) H1.out _ rfl ?_;intro w9 st9 hg9;clear st8))
 exact zEP rfl b8 _ _ ⟨dE,hdE,haE⟩ rfl (st9.at (i:=1) rfl) (zBU HS.out) _ rfl rfl (HP.out _ _ _ _ HS.out H1.out (Her.out.turn hrow8 (by decide) hg9) st9.below)
def TrBad(op:ByteArray)(w:World)(e:Ending)(w':World):Prop:=∃(v:Value) (code:Int),e=.returned v∧IsErr w' v [(op,0)] (.iface 31 (.int .i64 code))∧Below w.heap.size w w'
set_option maxRecDepth 20000 in
theorem TPut_bad(tb:Nat)(kl:List Nat)(v:Value)(a:Option Addr)(n c:Nat)(hn:n≤1000000)(w:World)(hv:RdB w v kl)(hbad:BadKV kl.length n) :
  Calls Tryz.prog 20 #[.pointer (some ⟨tb,0,none⟩),v,.slice a n c] w (TrBad (String.toUTF8 "put") w):=by
 have HP:Hid (∀(v:Value)(code:Int) (w':World),IsErr w' v [(String.toUTF8 "put",0)] (.iface 31 (.int .i64 code))→Below w.heap.size w w'→TrBad (String.toUTF8 "put") w (.returned v) w'):=fun v code w' h1 h2=>⟨v,code,rfl,h1,h2⟩
 generalize TrBad (String.toUTF8 "put") w=R at *;have HS:=Lib.hid (start_bad tb (String.toUTF8 "put") kl v a n c hn w hv hbad);obtain⟨ze,hze,hz0⟩:=zEA;clear hv hbad hn;have st:=St.init w;go_enter Tryz.func20,Tryz.ntmps20
 go_wp2_with (first
  |(go_at_call 47;refine HS.out.mono ?_;rintro e w1 ⟨ec,v1,code,rfl,hes,he1,her,hbel⟩;have st1:=St.call st hbel;have HEs:=Lib.hid hes;have HE1:=Lib.hid he1;obtain⟨et,eu,hev⟩:=her.iface;have HEr:=Lib.hid her;clear st hbel hes he1 her;subst hev)
  |((with_reducible refine zAW 52 ?_);(refine zIW st1 rfl 52 rfl (.agg ze) hz0 ?_);intro b7 w2 st2 hbg hb2;have HEr2:=Lib.hid (HEr.out.call hb2);clear st1 HEr hbg hb2)
  |((with_reducible refine zAN 52 ?_);refine zCW st2 rfl 52 _ _ rfl 0 b7 rfl (.agg ec) rfl _ _ rfl (zBU HEs.out) (by show ec.size=ze.size;rw[HEs.out,hze]) HE1.out _ rfl ?_;intro w3 st3 hg3;have HEr3:=Lib.hid (HEr2.out.turn (st2.at (i:=0) rfl) (by decide) hg3);clear st2 HEr2 hg3))
 exact HP.out _ _ _ HEr3.out st3.below
end
end Go.Proofs.YtlcngapphloafaaGreatDoor
