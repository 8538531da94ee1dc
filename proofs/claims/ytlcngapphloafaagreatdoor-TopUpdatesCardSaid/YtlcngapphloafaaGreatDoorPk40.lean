/- Parts of the proof that are used by the claim: Chgs. No condition is added here. -/
import Derived.Test.YtlcngapphloafaaGreatDoorPk38
import Derived.Test.YtlcngapphloafaaGreatDoorPk39
import Derived.Test.YtlcngapphloafaaGreatDoorPk35
import Derived.Test.YtlcngapphloafaaGreatDoorPk26
namespace Go.Proofs.YtlcngapphloafaaGreatDoor
section
set_option maxHeartbeats 8000000
open Go Go.RowKit
attribute [local irreducible] Inv.wpInv Mix.wpUp
theorem aggUpd:∃d,Tryz.prog.underlying 161=some d∧zGJ d=true:=by
 have h:(Tryz.prog.underlying 161).map zGJ=some true:=by kernel_rfl
 cases hq:Tryz.prog.underlying 161 with
 |none=>rw[hq] at h;cases h
 |some d=>rw[hq] at h;exact⟨d,rfl,Option.some.inj h⟩
theorem zGL:(Tryz.prog.info? 161).map (·.size)=some 3:=by kernel_rfl
theorem sizeSl8:(Tryz.prog.info? 22).map (·.size)=some 1:=by kernel_rfl
theorem zeroUpd:(Tryz.prog.info? 161).bind (·.zero)=some (.agg #[.slice none 0 0,.slice none 0 0,.bool false]):=by kernel_rfl
theorem upd_one(u:Upd):∀x∈(Value.agg (updc u).toArray).cells.toList,x.oneCell'=true:=by
 intro x hx;simp[Value.cells,updc] at hx;rcases hx with rfl | rfl | rfl<;>rfl
theorem St.fresh{B:Nat}{w0 w:World}{L:List (Nat×Array Value×TypeId)}(st:St B w0 L w){i b:Nat}{cs:Array Value}{t:TypeId}(h:L[i]?=some (b,cs,t)):B≤b:=(st.rows _ (List.mem_of_getElem? h)).1
def chOf(kb:Upd→List Nat)(u:Upd):Chg:=⟨kb u,if u.del then none else u.va,if u.del then 0 else u.vn,if u.del then 0 else u.vc,u.del⟩
def opApply:ByteArray:=⟨#[97,112,112,108,121]⟩
def ChgsPost(kb:Upd→List Nat)(us:List Upd)(w:World)(e:Ending)(w':World):Prop:=Below w.heap.size w w' ∧
 ((OkU kb us∧∃(v':Value) (cs':List Chg),e=.returned (.tuple #[v',.nilIface])∧RdCh w' v' cs'∧cs'.Perm (us.map (chOf kb))∧AscCh cs') ∨
  (¬OkU kb us∧∃(v:Value) (at' code:Int),e=.returned (.tuple #[.slice none 0 0,v])∧IsErr w' v [(opApply,at')] (.iface 31 (.int .i64 code))))
theorem asc_of{cs cs':List Chg}(hp:cs'.Perm cs)(hs:cs'.Pairwise fun a b=>zDV a.k b.k≤0)(hd:cs.Pairwise fun a b=>a.k≠b.k)(hk:∀c∈cs,c.k.length=32):AscCh cs':=by
 have hd':cs'.Pairwise fun a b=>a.k≠b.k:=(hp.pairwise_iff (fun h=>Ne.symm h)).2 hd
 have hk':cs'.Pairwise fun a b=>a.k.length=b.k.length:=List.pairwise_of_forall_mem_list (fun a ha b hb=>(hk a (hp.mem_iff.1 ha)).trans (hk b (hp.mem_iff.1 hb)).symm)
 unfold AscCh;refine(hs.and (hd'.and hk')).imp ?_;intro a b ⟨h1,h2,h3⟩
 have:zDV a.k b.k≠0:=fun h=>h2 (cmpL_eq _ _ h3 h)
 omega
set_option maxRecDepth 20000 in
theorem Changes_calls(kb:Upd→List Nat)(us:List Upd)(v:Value)(w:World)(hv:RdU w v us)(hn:us.length≤1000)(hkb:∀u∈us,RdB w (.slice u.ka u.kn u.kc) (kb u)∧(∀x∈kb u,x<256)∧u.kn=(kb u).length∧u.vn≤1000000) :
  Calls Tryz.prog 119 #[v] w (ChgsPost kb us w):=by
 have HPbad:Hid (∀(ve:Value)(at' code:Int) (w':World),¬OkU kb us→Below w.heap.size w w'→IsErr w' ve [(opApply,at')] (.iface 31 (.int .i64 code))→ChgsPost kb us w (.returned (.tuple #[.slice none 0 0,ve])) w'):=fun ve at' code w' h1 h2 h3=>⟨h2,.inr ⟨h1,ve,at',code,rfl,h3⟩⟩
 have HPok:Hid (∀(v':Value)(cs':List Chg) (w':World),OkU kb us→Below w.heap.size w w'→RdCh w' v' cs'→cs'.Perm (us.map (chOf kb))→AscCh cs'→ChgsPost kb us w (.returned (.tuple #[v',.nilIface])) w'):=fun v' cs' w' h1 h2 h3 h4 h5=>⟨h2,.inl ⟨h1,v',cs',rfl,h3,h4,h5⟩⟩
 generalize ChgsPost kb us w=R at *;have HV:=Lib.hid hv;have HKB:=Lib.hid hkb;obtain⟨a,c,rfl,_⟩:=hv.form;have hni:((us.length:Nat):Int)≤1000:=by omega
 obtain⟨ze,hze,hz0⟩:=zEA;have hag:=zFR;clear hv hkb;go_enter Tryz.func119,Tryz.ntmps119;go_upto_region 4 with (first
  |(refine wpList_madeS rfl rfl ?_;intro mb w1 hset hmbw hb1))
 obtain⟨M,hM⟩:∃M,M=w1.heap.size:=⟨_,rfl⟩
 have Hmb:Hid (w.heap.size≤mb∧mb<M):=⟨hmbw,by rw[hM];exact hset.lt⟩
 have HMw:Hid (w.heap.size≤M):=by rw[hM];exact hb1.size
 have HM1:Hid (M≤w1.heap.size):=by rw[hM];exact Nat.le_refl _
 have Hset1:=Lib.hid hset;have Hb1:=Lib.hid hb1;clear hM hset hmbw hb1
 go_loopw [4,13] (fun v i wr=>∃(j:Nat) (v4:Value),j≤us.length∧v4=v∧i=.int .i64 (j:Nat)∧Below w.heap.size w wr∧OwnSet wr mb ((us.take j).map kb)∧wr.ownsRow M 276 34 v4 j ((us.take j).flatMap fun u=>chc (chOf kb u))∧M≤wr.heap.size∧OkU kb (us.take j)) (fun _ i _=>((us.length:Int) - intOf i).toNat)
 case atStart=>exact⟨0,.slice none 0 0,Nat.zero_le _,rfl,rfl,Hb1.out,Hset1.out,World.ownsRow_nil _ _ _ _,HM1.out,⟨fun _ h=>(List.not_mem_nil h).elim,List.Pairwise.nil⟩⟩
 case round =>
  obtain⟨j,v4,hj,rfl,rfl,hbw,hset,hown,hM,hok⟩:=hrel;clear Hset1 Hb1 HM1
  by_cases hlt:j<us.length
  ·have hji:((j:Nat):Int)<(us.length:Nat):=by omega
   obtain⟨b,off,c',hva,_,Hat0⟩:=HV.out.at (by intro h;rw[h] at hlt;exact absurd hlt (Nat.not_lt_zero _));obtain⟨rfl,rfl⟩:a=some ⟨b,off,none⟩∧c=c':=by injection hva with h1 h2 h3;exact⟨h1,h3⟩
   have Hat:Hid (CellsAt wr b (off+j*3) (updc us[j])):=Hat0.out wr hbw j hlt;obtain⟨hrd,h256,hkn,hvn⟩:=HKB.out us[j] (List.getElem_mem _);have hks1:(us.take (j+1)).map kb=(us.take j).map kb++[kb us[j]]:=by
    rw[List.take_add_one,List.getElem?_eq_getElem hlt,Option.toList_some,List.map_append];rfl
   have hxs1:(us.take (j+1)).flatMap (fun u=>chc (chOf kb u))=(us.take j).flatMap (fun u=>chc (chOf kb u))++(chc (chOf kb us[j])).toArray.toList:=by
    rw[List.take_add_one,List.getElem?_eq_getElem hlt,Option.toList_some,List.flatMap_append];simp
   have hbadO:(zFT us[j]≠0∨kb us[j]∈(us.take j).map kb)→¬OkU kb us:=fun h hO=>by
    rcases h with h | h
    ·exact h (hO.1 _ (List.getElem_mem _))
    ·obtain⟨x,hx,hxe⟩:=List.mem_map.1 h
     obtain⟨i,hi,rfl⟩:=List.getElem_of_mem hx;rw[List.length_take] at hi;rw[List.getElem_take] at hxe;exact List.pairwise_iff_getElem.1 hO.2 i j (by omega) hlt (by omega) hxe
   have hokS:zFT us[j]=0→kb us[j]∉(us.take j).map kb→OkU kb (us.take (j+1)):=fun h1 h2=>OkU.snoc hlt hok h1 (fun i hi he=>h2 (List.mem_map.2 ⟨us[i],by rw[List.mem_take_iff_getElem];exact⟨i,by omega,rfl⟩,he⟩))
   have hF:=fun code hc wx=>fail_bad opApply (j:Nat) code hc wx
   generalize us[j]=u at *;generalize (us.take j).map kb=ks at *;generalize (us.take j).flatMap (fun u=>chc (chOf kb u))=xs at *;have HSet:=Lib.hid hset;have Hown:=Lib.hid hown;have HM:=Lib.hid hM;have Hbw:=Lib.hid hbw;have HKs1:=Lib.hid hks1;have HXs1:=Lib.hid hxs1;have HRd:=Lib.hid (hrd.call hbw);have HF:=Lib.hid hF;have st0:=St.init wr;clear hva Hat0 hset hown hM hks1 hxs1 hF hbw hok HV HKB;have hunk:u.kn≤1000000→True:=fun _=>trivial
   clear hunk
   cases hdel:u.del
   ·have Hdel:=Lib.hid hdel
    have hup:zFT u=zFF u.kn u.vn:=by unfold zFT;rw[hdel];rfl
    by_cases hr:(kb u).length=32∧u.vn≤65535
    ·obtain⟨hkl,hv16⟩:=hr
     have hup0:zFT u=0:=by rw[hup];unfold zFF;rw[hkn,if_pos hkl,if_pos hv16]
     have HE:=Lib.hid (fun wx (h:Below wr.heap.size wr wx)=>entry_calls (kb u) (.slice u.ka u.kn u.kc) hkl u.va u.vn u.vc hv16 wx (HRd.out.call h));have Hkl:=Lib.hid hkl;have HS:=Lib.hid (zBM (kb u) (.slice u.va u.vn u.vc) hkl);have H1:=Lib.hid (zCM (kb u) u.va u.vn u.vc);have HKp:=Lib.hid (zDJ (kb u) (.slice u.va u.vn u.vc) hkl);have HKs:=Lib.hid (zII (kb u) (.slice u.va u.vn u.vc) hkl);generalize zAV (kb u) (.slice u.va u.vn u.vc)=ec at *
     by_cases hm:kb u∈ks
     ·have Hnok:=Lib.hid (hbadO (.inr hm))
      have Hdec:Hid (decide (kb u∈ks)=true):=decide_eq_true hm;clear hbadO hokS hup hup0 hdel hm hkl hkn hvn hrd h256
      go_wp2_with (first
       |((with_reducible refine zBA 161 ?_);refine zBR rfl 161 _ rfl b (off+j*3) rfl aggUpd (updc u) zGL Hat.out ?_)
       |((with_reducible refine zAW 161 ?_);refine zAE st0 rfl 161 rfl _ zeroUpd ?_;intro bu w1 st1;clear st0)
       |((with_reducible refine zAN 161 ?_);refine zAA st1 rfl 161 _ _ rfl 0 bu rfl (.agg (updc u).toArray) rfl _ _ rfl zGL rfl (upd_one u) [(bu,#[.slice u.ka u.kn u.kc,.slice u.va u.vn u.vc,.bool false],161)] (by show [(bu,_,_)]=_;rw[←Hdel.out];rfl) ?_;intro w2 st2;have hu0:w2.cell? ⟨bu,0,none⟩=some (.slice u.ka u.kn u.kc):=st2.cell (i:=0) rfl 0;have hu1:w2.cell? ⟨bu,1,none⟩=some (.slice u.va u.vn u.vc):=st2.cell (i:=0) rfl 1;have hu2:w2.cell? ⟨bu,2,none⟩=some (.bool false):=st2.cell (i:=0) rfl 2;clear st1)
       |(go_at_call 89;refine(HE.out _ (st2).below).mono ?_;rintro e w4 ⟨rfl,hb4⟩;have st4:=st2.call hb4;clear st2 hb4)
       |((with_reducible refine zAW 52 ?_);refine zAE st4 rfl 52 rfl _ hz0 ?_;intro be w5 st5;clear st4)
       |((with_reducible refine zAN 52 ?_);refine zAA st5 rfl 52 _ _ rfl 0 be rfl (.agg ec) rfl _ _ rfl (by show _=some ec.size;rw[HS.out];exact zDB) (by show ec.size=_;rw[HS.out,hze]) H1.out [(be,ec,52),(bu,#[.slice u.ka u.kn u.kc,.slice u.va u.vn u.vc,.bool false],161)] rfl ?_;intro w6 st6;have hb6:=st6.below;clear hu0 hu1 hu2;have hu2:w6.cell? ⟨bu,2,none⟩=some (.bool false):=st6.cell (i:=1) rfl 2;clear st5)
       |(at_lookup;refine wpList_lookS rfl _ _ rfl mb _ rfl (HSet.out.call hb6) (kb u) Hkl.out rfl ?_;rw[Hdec.out])
       |((with_reducible refine zBA 37 ?_);refine zAP rfl 37 _ rfl be 0 32 rfl zBN _ _ _ (st6.at (i:=0) rfl) zBC (by rw[HS.out];decide) _ HKp.out ?_)
       |(go_at_call 88;refine(HF.out 9 (by decide) _).mono ?_;rintro e w7 ⟨ve,rfl,hie,hb7⟩))
      exact HPbad.out _ _ _ _ Hnok.out (Hbw.out.trans ((hb6.trans (hb7.mono hb6.size)).mono Hbw.out.size)) hie
     ·have HOkS:=Lib.hid (hokS hup0 hm)
      have Hnew:=Lib.hid hm;have Hdec:Hid (decide (kb u∈ks)=false):=decide_eq_false hm;have HBc:Hid (Tryz.prog.built 276 [(0,.agg (kv (kb u))),(1,.slice u.va u.vn u.vc),(2,.bool false)]=some (chc (chOf kb u)).toArray):=by
       have h:=builtCh3 (kb u) hkl u.va u.vn u.vc false;have e:chOf kb u=⟨kb u,u.va,u.vn,u.vc,false⟩:=by unfold chOf;rw[hdel];rfl
       rw[e];exact h
      have HXs:=Lib.hid (zDS (chOf kb u) hkl);have HX1:=Lib.hid (zJG (chOf kb u));generalize (chc (chOf kb u)).toArray=X at *;clear hbadO hokS hup hup0 hdel hm hkl hkn hvn hrd h256
      go_wp2_with (first
       |((with_reducible refine zBA 161 ?_);refine zBR rfl 161 _ rfl b (off+j*3) rfl aggUpd (updc u) zGL Hat.out ?_)
       |((with_reducible refine zAW 161 ?_);refine zAE st0 rfl 161 rfl _ zeroUpd ?_;intro bu w1 st1;clear st0)
       |((with_reducible refine zAN 161 ?_);refine zAA st1 rfl 161 _ _ rfl 0 bu rfl (.agg (updc u).toArray) rfl _ _ rfl zGL rfl (upd_one u) [(bu,#[.slice u.ka u.kn u.kc,.slice u.va u.vn u.vc,.bool false],161)] (by show [(bu,_,_)]=_;rw[←Hdel.out];rfl) ?_;intro w2 st2;have hu0:w2.cell? ⟨bu,0,none⟩=some (.slice u.ka u.kn u.kc):=st2.cell (i:=0) rfl 0;have hu1:w2.cell? ⟨bu,1,none⟩=some (.slice u.va u.vn u.vc):=st2.cell (i:=0) rfl 1;have hu2:w2.cell? ⟨bu,2,none⟩=some (.bool false):=st2.cell (i:=0) rfl 2;clear st1)
       |(go_at_call 89;refine(HE.out _ (st2).below).mono ?_;rintro e w4 ⟨rfl,hb4⟩;have st4:=st2.call hb4;clear st2 hb4)
       |((with_reducible refine zAW 52 ?_);refine zAE st4 rfl 52 rfl _ hz0 ?_;intro be w5 st5;clear st4)
       |((with_reducible refine zAN 52 ?_);refine zAA st5 rfl 52 _ _ rfl 0 be rfl (.agg ec) rfl _ _ rfl (by show _=some ec.size;rw[HS.out];exact zDB) (by show ec.size=_;rw[HS.out,hze]) H1.out [(be,ec,52),(bu,#[.slice u.ka u.kn u.kc,.slice u.va u.vn u.vc,.bool false],161)] rfl ?_;intro w6 st6;have hb6:=st6.below;clear hu0 hu1 hu2;have hu2:w6.cell? ⟨bu,2,none⟩=some (.bool false):=st6.cell (i:=1) rfl 2;clear st5)
       |(at_lookup;refine wpList_lookS rfl _ _ rfl mb _ rfl (HSet.out.call hb6) (kb u) Hkl.out rfl ?_;rw[Hdec.out])
       |((with_reducible refine zBA 37 ?_);first | (refine zAP rfl 37 _ rfl be 0 32 rfl zBN _ _ _ (st6.at (i:=0) rfl) zBC (by rw[HS.out];decide) _ HKp.out ?_) | (refine zAP rfl 37 _ rfl be 0 32 rfl zBN _ _ _ hre zBC (by rw[HS.out];decide) _ HKp.out ?_))
       |(at_mapUpdate;refine wpList_updS rfl _ _ _ rfl mb _ rfl (HSet.out.call hb6) (kb u) Hkl.out Hnew.out rfl rfl ?_;intro w7 hset7 hg7;have Hb7:=Lib.hid (show Below w.heap.size w w7 from (Hbw.out.trans (hb6.mono Hbw.out.size)).grown hg7 (Nat.le_trans Hbw.out.size hb6.size) (fun k e=>by cases e;exact Hmb.out.1));have hre:w7.heap[be]?=some (.cells ec 52 (0,0)):=(hg7.block be (zAG (st6.at (i:=0) rfl)) (fun e=>by {have h1:=st6.fresh (i:=0) rfl;have h2:=HSet.out.lt;have h3:=Option.some.inj e;omega})).trans (st6.at (i:=0) rfl);have hce:w7.cell? ⟨be,32,none⟩=some (.slice u.va u.vn u.vc):=by {rw[cell_of_row w7 be 32 ec _ _ hre];exact HKs.out};have hbu:w7.heap[bu]?=some (.cells #[.slice u.ka u.kn u.kc,.slice u.va u.vn u.vc,.bool false] 161 (0,0)):=(hg7.block bu (zAG (st6.at (i:=1) rfl)) (fun e=>by {have h1:=st6.fresh (i:=1) rfl;have h2:=HSet.out.lt;have h3:=Option.some.inj e;omega})).trans (st6.at (i:=1) rfl);have hcu:w7.cell? ⟨bu,2,none⟩=some (.bool false):=(by {rw[cell_of_row w7 bu 2 _ _ _ hbu];rfl});have hown7:=zEQ (zAY Hown.out hb6) hg7 Hmb.out.2;have hM7:M≤w7.heap.size:=Nat.le_trans (Nat.le_trans HM.out hb6.size) hg7.size;have st7:=St.init w7;have Hset7:=Lib.hid hset7;clear st6 hbu hset7 hg7 hb6)
       |((with_reducible refine zEG 276 ?_);refine zAM rfl 276 _ rfl [(0,.agg (kv (kb u))),(1,.slice u.va u.vn u.vc),(2,.bool false)] ?_ _ HBc.out ?_;(·(simp[Act.eval];done)))
       |((with_reducible refine zBP 235 ?_);refine zAR st7 rfl 235 1 _ rfl 276 zDE _ 34 zeroCh zCD (by decide) (by decide) [(0,.agg X)] ?_ _ (fillCh _ HXs.out) ?_;(·(first | (simp[Act.eval];done) | (simp[Act.eval,Act.put];done) | (exact(rfl:(_:List (Nat×Value))=_))));intro bs w8 st8 hb8)
       |(at_builtin;(refine zGY (base:=M) v4 rfl _ _ 235 rfl 276 _ 34 64 zDE zeroCh zCD bytesCh rfl (by decide) j _ rfl (zAY hown7 hb8) bs 1 1 X 276 rfl (by rw[HXs.out]) (st8.at (i:=0) rfl) HX1.out (by unfold maxLen;omega) (by omega) (Nat.le_trans hM7 hb8.size) ?_);intro v9 w9 hown9 hg9))
      go_roundw
      case rel =>
       have hlt4:∀k,v4.ownBlock=some k→M≤k:=fun k hk=>((zAY hown7 hb8).lt k hk).1
       refine⟨j+1,v9,hlt,rfl,rfl,Hb7.out.trans (hb8.mono Hb7.out.size) |>.grown hg9 (Nat.le_trans Hb7.out.size hb8.size) (fun k hk=>Nat.le_trans HMw.out (hlt4 k hk)),?_,?_,Nat.le_trans hM7 (Nat.le_trans hb8.size hg9.size),HOkS.out⟩
       ·rw[HKs1.out]
        exact(Hset7.out.call hb8).kept hg9 (fun e=>by have:=hlt4 mb e.symm;have:=Hmb.out.2;omega)
       ·rw[HXs1.out]
        exact hown9
      case measure=>simp[intOf];omega
    ·have Hnok:Hid (¬OkU kb us):=hbadO (.inl (by
       rw[hup,hkn];unfold zFF
       by_cases h:(kb u).length=32
       ·rw[if_pos h,if_neg (by omega)];decide
       ·rw[if_neg h];decide))
     have HE:=Lib.hid (fun wx (h:Below wr.heap.size wr wx)=>entry_bad (kb u) (.slice u.ka u.kn u.kc) u.va u.vn u.vc hvn wx (HRd.out.call h) (by unfold BadKV;omega));clear hbadO hokS hup hdel hr hkn hvn hrd h256
     go_wp2_with (first
      |((with_reducible refine zBA 161 ?_);refine zBR rfl 161 _ rfl b (off+j*3) rfl aggUpd (updc u) zGL Hat.out ?_)
      |((with_reducible refine zAW 161 ?_);refine zAE st0 rfl 161 rfl _ zeroUpd ?_;intro bu w1 st1;clear st0)
      |((with_reducible refine zAN 161 ?_);refine zAA st1 rfl 161 _ _ rfl 0 bu rfl (.agg (updc u).toArray) rfl _ _ rfl zGL rfl (upd_one u) [(bu,#[.slice u.ka u.kn u.kc,.slice u.va u.vn u.vc,.bool false],161)] (by show [(bu,_,_)]=_;rw[←Hdel.out];rfl) ?_;intro w2 st2;have hu0:w2.cell? ⟨bu,0,none⟩=some (.slice u.ka u.kn u.kc):=st2.cell (i:=0) rfl 0;have hu1:w2.cell? ⟨bu,1,none⟩=some (.slice u.va u.vn u.vc):=st2.cell (i:=0) rfl 1;have hu2:w2.cell? ⟨bu,2,none⟩=some (.bool false):=st2.cell (i:=0) rfl 2;clear st1)
      |(go_at_call 89;refine(HE.out _ (st2).below).mono ?_;rintro e w4 ⟨ec,code,rfl,hes,he1,hcode,hb4⟩;have hcode0:(code==0)=false:=by {rcases hcode with h | h<;>rw[h]<;>rfl};have hcne:code≠0:=by {rcases hcode with h | h<;>rw[h]<;>decide};have HS:=Lib.hid hes;have H1:=Lib.hid he1;clear hes he1 hcode;have st4:=st2.call hb4;clear st2 hb4)
      |((with_reducible refine zAW 52 ?_);refine zAE st4 rfl 52 rfl _ hz0 ?_;intro be w5 st5;clear st4)
      |((with_reducible refine zAN 52 ?_);refine zAA st5 rfl 52 _ _ rfl 0 be rfl (.agg ec) rfl _ _ rfl (by show _=some ec.size;rw[HS.out];exact zDB) (by show ec.size=_;rw[HS.out,hze]) H1.out [(be,ec,52),(bu,#[.slice u.ka u.kn u.kc,.slice u.va u.vn u.vc,.bool false],161)] rfl ?_;intro w6 st6;have hb6:=st6.below;clear hu0 hu1 hu2;have hu2:w6.cell? ⟨bu,2,none⟩=some (.bool false):=st6.cell (i:=1) rfl 2;clear st5)
      |(go_at_call 88;refine(HF.out _ hcne _).mono ?_;rintro e w7 ⟨ve,rfl,hie,hb7⟩))
     exact HPbad.out _ _ _ _ Hnok.out (Hbw.out.trans ((hb6.trans (hb7.mono hb6.size)).mono Hbw.out.size)) hie
   ·have Hdel:=Lib.hid hdel
    have hup:zFT u=zFF u.kn 0:=by unfold zFT;rw[hdel];rfl
    by_cases hkl:(kb u).length=32
    ·have hup0:zFT u=0:=by rw[hup];unfold zFF;rw[hkn,if_pos hkl,if_pos (by omega)]
     have HE:=Lib.hid (fun wx (h:Below wr.heap.size wr wx)=>entry_calls (kb u) (.slice u.ka u.kn u.kc) hkl none 0 0 (by omega) wx (HRd.out.call h));have Hkl:=Lib.hid hkl;have HS:=Lib.hid (zBM (kb u) (.slice none 0 0) hkl);have H1:=Lib.hid (zCM (kb u) none 0 0);have HKp:=Lib.hid (zDJ (kb u) (.slice none 0 0) hkl);have HKs:=Lib.hid (zII (kb u) (.slice none 0 0) hkl);generalize zAV (kb u) (.slice none 0 0)=ec at *
     by_cases hm:kb u∈ks
     ·have Hnok:=Lib.hid (hbadO (.inr hm))
      have Hdec:Hid (decide (kb u∈ks)=true):=decide_eq_true hm;clear hbadO hokS hup hup0 hdel hm hkl hkn hvn hrd h256
      go_wp2_with (first
       |((with_reducible refine zBA 161 ?_);refine zBR rfl 161 _ rfl b (off+j*3) rfl aggUpd (updc u) zGL Hat.out ?_)
       |((with_reducible refine zAW 161 ?_);refine zAE st0 rfl 161 rfl _ zeroUpd ?_;intro bu w1 st1;clear st0)
       |((with_reducible refine zAN 161 ?_);refine zAA st1 rfl 161 _ _ rfl 0 bu rfl (.agg (updc u).toArray) rfl _ _ rfl zGL rfl (upd_one u) [(bu,#[.slice u.ka u.kn u.kc,.slice u.va u.vn u.vc,.bool true],161)] (by show [(bu,_,_)]=_;rw[←Hdel.out];rfl) ?_;intro w2 st2;have hu0:w2.cell? ⟨bu,0,none⟩=some (.slice u.ka u.kn u.kc):=st2.cell (i:=0) rfl 0;have hu1:w2.cell? ⟨bu,1,none⟩=some (.slice u.va u.vn u.vc):=st2.cell (i:=0) rfl 1;have hu2:w2.cell? ⟨bu,2,none⟩=some (.bool true):=st2.cell (i:=0) rfl 2;clear st1)
       |((with_reducible refine zAN 22 ?_);refine zBD st2 rfl 22 _ _ rfl 0 bu 1 rfl (.slice none 0 0) rfl _ _ rfl sizeSl8 rfl (show 1<3 by omega) rfl _ rfl [(bu,#[.slice u.ka u.kn u.kc,.slice none 0 0,.bool true],161)] rfl ?_;intro w3 st3 hg3;clear hu0 hu1 hu2;have hu0:w3.cell? ⟨bu,0,none⟩=some (.slice u.ka u.kn u.kc):=st3.cell (i:=0) rfl 0;have hu1:w3.cell? ⟨bu,1,none⟩=some (.slice none 0 0):=st3.cell (i:=0) rfl 1;have hu2:w3.cell? ⟨bu,2,none⟩=some (.bool true):=st3.cell (i:=0) rfl 2;clear st2 hg3)
       |(go_at_call 89;refine(HE.out _ (st3).below).mono ?_;rintro e w4 ⟨rfl,hb4⟩;have st4:=st3.call hb4;clear st3 hb4)
       |((with_reducible refine zAW 52 ?_);refine zAE st4 rfl 52 rfl _ hz0 ?_;intro be w5 st5;clear st4)
       |((with_reducible refine zAN 52 ?_);refine zAA st5 rfl 52 _ _ rfl 0 be rfl (.agg ec) rfl _ _ rfl (by show _=some ec.size;rw[HS.out];exact zDB) (by show ec.size=_;rw[HS.out,hze]) H1.out [(be,ec,52),(bu,#[.slice u.ka u.kn u.kc,.slice none 0 0,.bool true],161)] rfl ?_;intro w6 st6;have hb6:=st6.below;clear hu0 hu1 hu2;have hu2:w6.cell? ⟨bu,2,none⟩=some (.bool true):=st6.cell (i:=1) rfl 2;clear st5)
       |(at_lookup;refine wpList_lookS rfl _ _ rfl mb _ rfl (HSet.out.call hb6) (kb u) Hkl.out rfl ?_;rw[Hdec.out])
       |((with_reducible refine zBA 37 ?_);refine zAP rfl 37 _ rfl be 0 32 rfl zBN _ _ _ (st6.at (i:=0) rfl) zBC (by rw[HS.out];decide) _ HKp.out ?_)
       |(go_at_call 88;refine(HF.out 9 (by decide) _).mono ?_;rintro e w7 ⟨ve,rfl,hie,hb7⟩))
      exact HPbad.out _ _ _ _ Hnok.out (Hbw.out.trans ((hb6.trans (hb7.mono hb6.size)).mono Hbw.out.size)) hie
     ·have HOkS:=Lib.hid (hokS hup0 hm)
      have Hnew:=Lib.hid hm;have Hdec:Hid (decide (kb u∈ks)=false):=decide_eq_false hm;have HBc:Hid (Tryz.prog.built 276 [(0,.agg (kv (kb u))),(1,.slice none 0 0),(2,.bool true)]=some (chc (chOf kb u)).toArray):=by
       have h:=builtCh3 (kb u) hkl none 0 0 true;have e:chOf kb u=⟨kb u,none,0,0,true⟩:=by unfold chOf;rw[hdel];rfl
       rw[e];exact h
      have HXs:=Lib.hid (zDS (chOf kb u) hkl);have HX1:=Lib.hid (zJG (chOf kb u));generalize (chc (chOf kb u)).toArray=X at *;clear hbadO hokS hup hup0 hdel hm hkl hkn hvn hrd h256
      go_wp2_with (first
       |((with_reducible refine zBA 161 ?_);refine zBR rfl 161 _ rfl b (off+j*3) rfl aggUpd (updc u) zGL Hat.out ?_)
       |((with_reducible refine zAW 161 ?_);refine zAE st0 rfl 161 rfl _ zeroUpd ?_;intro bu w1 st1;clear st0)
       |((with_reducible refine zAN 161 ?_);refine zAA st1 rfl 161 _ _ rfl 0 bu rfl (.agg (updc u).toArray) rfl _ _ rfl zGL rfl (upd_one u) [(bu,#[.slice u.ka u.kn u.kc,.slice u.va u.vn u.vc,.bool true],161)] (by show [(bu,_,_)]=_;rw[←Hdel.out];rfl) ?_;intro w2 st2;have hu0:w2.cell? ⟨bu,0,none⟩=some (.slice u.ka u.kn u.kc):=st2.cell (i:=0) rfl 0;have hu1:w2.cell? ⟨bu,1,none⟩=some (.slice u.va u.vn u.vc):=st2.cell (i:=0) rfl 1;have hu2:w2.cell? ⟨bu,2,none⟩=some (.bool true):=st2.cell (i:=0) rfl 2;clear st1)
       |((with_reducible refine zAN 22 ?_);refine zBD st2 rfl 22 _ _ rfl 0 bu 1 rfl (.slice none 0 0) rfl _ _ rfl sizeSl8 rfl (show 1<3 by omega) rfl _ rfl [(bu,#[.slice u.ka u.kn u.kc,.slice none 0 0,.bool true],161)] rfl ?_;intro w3 st3 hg3;clear hu0 hu1 hu2;have hu0:w3.cell? ⟨bu,0,none⟩=some (.slice u.ka u.kn u.kc):=st3.cell (i:=0) rfl 0;have hu1:w3.cell? ⟨bu,1,none⟩=some (.slice none 0 0):=st3.cell (i:=0) rfl 1;have hu2:w3.cell? ⟨bu,2,none⟩=some (.bool true):=st3.cell (i:=0) rfl 2;clear st2 hg3)
       |(go_at_call 89;refine(HE.out _ (st3).below).mono ?_;rintro e w4 ⟨rfl,hb4⟩;have st4:=st3.call hb4;clear st3 hb4)
       |((with_reducible refine zAW 52 ?_);refine zAE st4 rfl 52 rfl _ hz0 ?_;intro be w5 st5;clear st4)
       |((with_reducible refine zAN 52 ?_);refine zAA st5 rfl 52 _ _ rfl 0 be rfl (.agg ec) rfl _ _ rfl (by show _=some ec.size;rw[HS.out];exact zDB) (by show ec.size=_;rw[HS.out,hze]) H1.out [(be,ec,52),(bu,#[.slice u.ka u.kn u.kc,.slice none 0 0,.bool true],161)] rfl ?_;intro w6 st6;have hb6:=st6.below;clear hu0 hu1 hu2;have hu2:w6.cell? ⟨bu,2,none⟩=some (.bool true):=st6.cell (i:=1) rfl 2;clear st5)
       |(at_lookup;refine wpList_lookS rfl _ _ rfl mb _ rfl (HSet.out.call hb6) (kb u) Hkl.out rfl ?_;rw[Hdec.out])
       |((with_reducible refine zBA 37 ?_);first | (refine zAP rfl 37 _ rfl be 0 32 rfl zBN _ _ _ (st6.at (i:=0) rfl) zBC (by rw[HS.out];decide) _ HKp.out ?_) | (refine zAP rfl 37 _ rfl be 0 32 rfl zBN _ _ _ hre zBC (by rw[HS.out];decide) _ HKp.out ?_))
       |(at_mapUpdate;refine wpList_updS rfl _ _ _ rfl mb _ rfl (HSet.out.call hb6) (kb u) Hkl.out Hnew.out rfl rfl ?_;intro w7 hset7 hg7;have Hb7:=Lib.hid (show Below w.heap.size w w7 from (Hbw.out.trans (hb6.mono Hbw.out.size)).grown hg7 (Nat.le_trans Hbw.out.size hb6.size) (fun k e=>by cases e;exact Hmb.out.1));have hre:w7.heap[be]?=some (.cells ec 52 (0,0)):=(hg7.block be (zAG (st6.at (i:=0) rfl)) (fun e=>by {have h1:=st6.fresh (i:=0) rfl;have h2:=HSet.out.lt;have h3:=Option.some.inj e;omega})).trans (st6.at (i:=0) rfl);have hce:w7.cell? ⟨be,32,none⟩=some (.slice none 0 0):=by {rw[cell_of_row w7 be 32 ec _ _ hre];exact HKs.out};have hbu:w7.heap[bu]?=some (.cells #[.slice u.ka u.kn u.kc,.slice none 0 0,.bool true] 161 (0,0)):=(hg7.block bu (zAG (st6.at (i:=1) rfl)) (fun e=>by {have h1:=st6.fresh (i:=1) rfl;have h2:=HSet.out.lt;have h3:=Option.some.inj e;omega})).trans (st6.at (i:=1) rfl);have hcu:w7.cell? ⟨bu,2,none⟩=some (.bool true):=(by {rw[cell_of_row w7 bu 2 _ _ _ hbu];rfl});have hown7:=zEQ (zAY Hown.out hb6) hg7 Hmb.out.2;have hM7:M≤w7.heap.size:=Nat.le_trans (Nat.le_trans HM.out hb6.size) hg7.size;have st7:=St.init w7;have Hset7:=Lib.hid hset7;clear st6 hbu hset7 hg7 hb6)
       |((with_reducible refine zEG 276 ?_);refine zAM rfl 276 _ rfl [(0,.agg (kv (kb u))),(1,.slice none 0 0),(2,.bool true)] ?_ _ HBc.out ?_;(·(simp[Act.eval];done)))
       |((with_reducible refine zBP 235 ?_);refine zAR st7 rfl 235 1 _ rfl 276 zDE _ 34 zeroCh zCD (by decide) (by decide) [(0,.agg X)] ?_ _ (fillCh _ HXs.out) ?_;(·(first | (simp[Act.eval];done) | (simp[Act.eval,Act.put];done) | (exact(rfl:(_:List (Nat×Value))=_))));intro bs w8 st8 hb8)
       |(at_builtin;(refine zGY (base:=M) v4 rfl _ _ 235 rfl 276 _ 34 64 zDE zeroCh zCD bytesCh rfl (by decide) j _ rfl (zAY hown7 hb8) bs 1 1 X 276 rfl (by rw[HXs.out]) (st8.at (i:=0) rfl) HX1.out (by unfold maxLen;omega) (by omega) (Nat.le_trans hM7 hb8.size) ?_);intro v9 w9 hown9 hg9))
      go_roundw
      case rel =>
       have hlt4:∀k,v4.ownBlock=some k→M≤k:=fun k hk=>((zAY hown7 hb8).lt k hk).1
       refine⟨j+1,v9,hlt,rfl,rfl,Hb7.out.trans (hb8.mono Hb7.out.size) |>.grown hg9 (Nat.le_trans Hb7.out.size hb8.size) (fun k hk=>Nat.le_trans HMw.out (hlt4 k hk)),?_,?_,Nat.le_trans hM7 (Nat.le_trans hb8.size hg9.size),HOkS.out⟩
       ·rw[HKs1.out]
        exact(Hset7.out.call hb8).kept hg9 (fun e=>by have:=hlt4 mb e.symm;have:=Hmb.out.2;omega)
       ·rw[HXs1.out]
        exact hown9
      case measure=>simp[intOf];omega
    ·have Hnok:Hid (¬OkU kb us):=hbadO (.inl (by rw[hup,hkn];unfold zFF;rw[if_neg hkl];decide))
     have HE:=Lib.hid (fun wx (h:Below wr.heap.size wr wx)=>entry_bad (kb u) (.slice u.ka u.kn u.kc) none 0 0 (by omega) wx (HRd.out.call h) (by unfold BadKV;omega));clear hbadO hokS hup hdel hkl hkn hvn hrd h256
     go_wp2_with (first
      |((with_reducible refine zBA 161 ?_);refine zBR rfl 161 _ rfl b (off+j*3) rfl aggUpd (updc u) zGL Hat.out ?_)
      |((with_reducible refine zAW 161 ?_);refine zAE st0 rfl 161 rfl _ zeroUpd ?_;intro bu w1 st1;clear st0)
      |((with_reducible refine zAN 161 ?_);refine zAA st1 rfl 161 _ _ rfl 0 bu rfl (.agg (updc u).toArray) rfl _ _ rfl zGL rfl (upd_one u) [(bu,#[.slice u.ka u.kn u.kc,.slice u.va u.vn u.vc,.bool true],161)] (by show [(bu,_,_)]=_;rw[←Hdel.out];rfl) ?_;intro w2 st2;have hu0:w2.cell? ⟨bu,0,none⟩=some (.slice u.ka u.kn u.kc):=st2.cell (i:=0) rfl 0;have hu1:w2.cell? ⟨bu,1,none⟩=some (.slice u.va u.vn u.vc):=st2.cell (i:=0) rfl 1;have hu2:w2.cell? ⟨bu,2,none⟩=some (.bool true):=st2.cell (i:=0) rfl 2;clear st1)
      |((with_reducible refine zAN 22 ?_);refine zBD st2 rfl 22 _ _ rfl 0 bu 1 rfl (.slice none 0 0) rfl _ _ rfl sizeSl8 rfl (show 1<3 by omega) rfl _ rfl [(bu,#[.slice u.ka u.kn u.kc,.slice none 0 0,.bool true],161)] rfl ?_;intro w3 st3 hg3;clear hu0 hu1 hu2;have hu0:w3.cell? ⟨bu,0,none⟩=some (.slice u.ka u.kn u.kc):=st3.cell (i:=0) rfl 0;have hu1:w3.cell? ⟨bu,1,none⟩=some (.slice none 0 0):=st3.cell (i:=0) rfl 1;have hu2:w3.cell? ⟨bu,2,none⟩=some (.bool true):=st3.cell (i:=0) rfl 2;clear st2 hg3)
      |(go_at_call 89;refine(HE.out _ (st3).below).mono ?_;rintro e w4 ⟨ec,code,rfl,hes,he1,hcode,hb4⟩;have hcode0:(code==0)=false:=by {rcases hcode with h | h<;>rw[h]<;>rfl};have hcne:code≠0:=by {rcases hcode with h | h<;>rw[h]<;>decide};have HS:=Lib.hid hes;have H1:=Lib.hid he1;clear hes he1 hcode;have st4:=st3.call hb4;clear st3 hb4)
      |((with_reducible refine zAW 52 ?_);refine zAE st4 rfl 52 rfl _ hz0 ?_;intro be w5 st5;clear st4)
      |((with_reducible refine zAN 52 ?_);refine zAA st5 rfl 52 _ _ rfl 0 be rfl (.agg ec) rfl _ _ rfl (by show _=some ec.size;rw[HS.out];exact zDB) (by show ec.size=_;rw[HS.out,hze]) H1.out [(be,ec,52),(bu,#[.slice u.ka u.kn u.kc,.slice none 0 0,.bool true],161)] rfl ?_;intro w6 st6;have hb6:=st6.below;clear hu0 hu1 hu2;have hu2:w6.cell? ⟨bu,2,none⟩=some (.bool true):=st6.cell (i:=1) rfl 2;clear st5)
      |(go_at_call 88;refine(HF.out _ hcne _).mono ?_;rintro e w7 ⟨ve,rfl,hie,hb7⟩))
     exact HPbad.out _ _ _ _ Hnok.out (Hbw.out.trans ((hb6.trans (hb7.mono hb6.size)).mono Hbw.out.size)) hie
  ·obtain rfl:j=us.length:=by omega
   have hmapL:(us.map (chOf kb)).length=us.length:=List.length_map _;have hk32:∀u∈us,(kb u).length=32:=fun u hu=>by
    have h1:=hok.1 u (by rw[List.take_length];exact hu);have h2:=(HKB.out u hu).2.2.1;unfold zFT zFF at h1
    by_cases h3:u.kn=32
    ·rw[←h2];exact h3
    ·rw[if_neg h3] at h1
     exact absurd h1 (by decide)
   have hown':wr.ownsRow M 276 34 v4 (us.map (chOf kb)).length ((us.map (chOf kb)).flatMap chc):=by
    rw[hmapL,List.flatMap_map];rw[List.take_length] at hown;exact hown
   rw[List.take_length] at hok;have HS:=Lib.hid (SortCh_calls (us.map (chOf kb)) v4 M wr (fun c hc=>by
    obtain⟨u,hu,rfl⟩:=List.mem_map.1 hc;exact⟨hk32 u hu,(HKB.out u hu).2.1⟩) (by rw[hmapL];exact hn) hown')
   have Hok:=Lib.hid hok;have Hbw:=Lib.hid hbw;have Hlo:Hid (∀k,v4.ownBlock=some k→w.heap.size≤k):=fun k hk=>Nat.le_trans HMw.out (hown'.lt k hk).1
   have Hasc:Hid (∀cs':List Chg,cs'.Perm (us.map (chOf kb))→(cs'.Pairwise fun a b=>zDV a.k b.k≤0)→AscCh cs'):=fun cs' hp hs=>asc_of hp hs (by
    rw[List.pairwise_map];exact hok.2) (fun c hc=>by
    obtain⟨u,hu,rfl⟩:=List.mem_map.1 hc;exact hk32 u hu)
   clear hmapL hk32 hown' hok hbw hown hset hM HV HKB
   go_wp2_with (first
    |(go_at_call 152;refine HS.out.mono ?_;rintro e w9 ⟨rfl,cs',hperm,hsort,hr9,hg9⟩))
   exact HPok.out _ _ _ Hok.out (Hbw.out.grown hg9 Hbw.out.size Hlo.out) hr9 hperm (Hasc.out cs' hperm hsort)
end
end Go.Proofs.YtlcngapphloafaaGreatDoor
