/- Parts of the proof that are used by the claim: Ap2, Ap3, Ap4, BApply, Pl3. No condition is added here. -/
import Derived.Test.YtlcngapphloafaaGreatDoorPk34
import Derived.Test.YtlcngapphloafaaGreatDoorPk25
namespace Go.Proofs.YtlcngapphloafaaGreatDoor
section
set_option maxHeartbeats 4000000
open Go Go.RowKit
attribute [local irreducible] Inv.wpInv Mix.wpUp
theorem RdCh.cut{w:World}{gb go:Nat}{c:Nat}{kc:List CV}(h:RdCh w (.slice (some ⟨gb,go,none⟩) kc.length c) (kc.map (·.1)))(s:Nat)(hs:s≤kc.length) :
  RdCh w (.slice (some ⟨gb,go,none⟩) s s) ((kc.take s).map (·.1))∧RdCh w (.slice (if c=s then some (⟨gb,go,none⟩:Addr) else (some (⟨gb,go,none⟩:Addr)).map fun x=>x.add (s*34)) (kc.length - s) (c - s)) ((kc.drop s).map (·.1)):=by
 have h1:=RdG.takeS h s (by rw[List.length_map];exact hs);have h2:=RdG.dropS h s (by rw[List.length_map];exact hs);rw[List.length_map] at h2;rw[List.map_take,List.map_drop];exact⟨h1,h2⟩
theorem RdCh.spot{w:World}{a:Option Addr}{n c:Nat}{kc:List CV}(h:RdCh w (.slice a n c) (kc.map (·.1)))(hm:1≤kc.length):n≤c∧∃gb go,a=some ⟨gb,go,none⟩:=by
 obtain⟨_,_,a',c',h3,h4,h5⟩:=h;injection h3 with e1 e2 e3;obtain⟨b,off,e4,_⟩:=h5 (fun e=>by rw[List.map_eq_nil_iff] at e;rw[e] at hm;simp at hm);exact⟨by omega,b,off,e1.trans e4⟩
theorem RdCh.first{w:World}{gb go n c:Nat}{p:CV}(h:RdCh w (.slice (some ⟨gb,go,none⟩) n c) ([p].map (·.1))):CellsAt w gb go (chc p.1):=by
 obtain⟨_,_,a',c',h3,h4,h5⟩:=h;injection h3 with e1 e2 e3;obtain⟨b,off,e4,h6⟩:=h5 (by simp);rw[e4] at e1;injection e1 with e1;injection e1 with e5 e6;subst e5;subst e6;have h7:=h6 0 (by simp)
 simpa using h7
theorem ap_one(n d:Nat)(p:CV)(h:p.1.del≠true):zCI (n+1) (zGI [] [p]) d=.leaf p.1.k p.2:=by
 have h':p.1.del=false:=by simpa using h
 have e:zGI [] [p]=[(p.1.k,p.2)]:=by simp[zGI,h']
 rw[e,zGQ (by omega)]
theorem costA_split1(m0 m1 d:Nat)(h:1≤m0+m1):3+zEI m0 (d+1)+zEI m1 (d+1)≤zEI (m0+m1) d:=by
 unfold zEI;have e1:((m0+m1:Nat):Int)=(m0:Int)+(m1:Int):=by omega
 have e2:((d+1:Nat):Int)=(d:Int)+1:=by omega
 rw[e1,e2];have e3:(3*(257 - (d:Int))+2)=(3*(257 - ((d:Int)+1))+2)+3:=by omega
 rw[e3];generalize 3*(257 - ((d:Int)+1))+2=K;have h1:((m0:Int)+(m1:Int))*(K+3)=(m0:Int)*K+(m1:Int)*K+3*((m0:Int)+(m1:Int)):=by
  rw[Int.add_mul,Int.mul_add,Int.mul_add];omega
 rw[h1];omega
set_option linter.unusedSimpArgs false in
set_option maxRecDepth 20000 in
theorem ApNil_step(KK:List Int)(hb cb:Nat)(bits:Int)(hB:0≤bits∧bits≤256)(n d:Nat)(hdn:d+n=256)(cvs:List CV)(l:Value)(N:Int)(w:World)(hok:ApOK [] cvs d)(hg:GoodCV w cvs)(hn:cvs.length≤1000)(hl:RdCh w l (cvs.map (·.1)))(hh:HasH hb cb bits N w)(hK:HasK KK w)(hN:0≤N)(hNc:N+zEI cvs.length d≤3999999999999980000)
  (IH:d<256→∀(cvs':List CV)(l':Value) (N':Int) (w':World),ApOK [] cvs' (d+1)→GoodCV w' cvs'→cvs'.length≤1000→RdCh w' l' (cvs'.map (·.1))→HasH hb cb bits N' w'→HasK KK w'→0≤N'→N'+zEI cvs'.length (d+1)≤3999999999999980000 →
   Calls Tryz.prog 156 #[.pointer (some ⟨hb,0,none⟩),.pointer none,l',.int .i64 ((d:Nat)+1)] w' (TPost KK bits hb cb N' (zEI cvs'.length (d+1)) (zCI n (zGI [] cvs') (d+1)) w')) :
  Calls Tryz.prog 156 #[.pointer (some ⟨hb,0,none⟩),.pointer none,l,.int .i64 (d:Nat)] w (TPost KK bits hb cb N (zEI cvs.length d) (zCI (n+1) (zGI [] cvs) d) w):=by
 have HP:Hid (∀(w':World)(p:Option Addr) (N':Int),RepT KK bits w' p (zCI (n+1) (zGI [] cvs) d)→w.grownBy w' (some cb)→HasH hb cb bits N' w'→N≤N'→N'≤N+zEI cvs.length d→TPost KK bits hb cb N (zEI cvs.length d) (zCI (n+1) (zGI [] cvs) d) w (.returned (.pointer p)) w'):=fun w' p N' h1 h2 h3 h4 h5=>⟨p,N',rfl,h1,h2,h3,h4,h5⟩
 generalize TPost KK bits hb cb N (zEI cvs.length d) (zCI (n+1) (zGI [] cvs) d) w=R at *;have HV:=Lib.hid hl;obtain⟨la,lc,rfl,_⟩:=hl.form;rw[List.length_map] at *;have HH:=Lib.hid hh;have HKK:=Lib.hid hK;have hni:((cvs.length:Nat):Int)≤1000:=by omega
 have HIH:=Lib.hid IH;have HOKw:=Lib.hid hok;have HGw0:=Lib.hid hg;have HKw:Hid (KeysCh (cvs.map (·.1))):=fun c hc=>by obtain⟨p,hp,rfl⟩:=List.mem_map.1 hc;exact hok.key p hp
 clear hl hh hK hg IH hok
 by_cases h0:cvs=[]
 ·subst h0
  go_enter Tryz.func156,Tryz.ntmps156;go_wp2;exact HP.out _ none N (by rw[appE_none];rfl) (zHE (Below.refl _ _)) HH.out (Int.le_refl _) (by have:=zCK 0 d (by omega);show N≤N+zEI 0 d;omega)
 ·have hpos:0<cvs.length:=List.length_pos_iff.2 h0
  have hl0:(((cvs.length:Nat):Int)==0)=false:=by
   have h5:¬((cvs.length:Nat):Int)=0:=by omega
   simpa using h5
  have hne:cvs.map (·.1)≠[]:=fun e=>h0 (by simpa using e)
  have HCl:=Lib.hid (CloneCh_calls (cvs.map (·.1)) (.slice la cvs.length lc) w hne HKw.out (by rw[List.length_map];omega) HV.out);have HDe:Hid (∀g cap cur (wx:World),wx.heap[g]?=some (.cells cur 276 (0,0))→cvs.length≤cap→cap≤maxLen→cur.size=cap*34→cur.toList.take (cvs.length*34)=(cvs.map (·.1)).flatMap chc→Calls Tryz.prog 181 #[.slice (some ⟨g,0,none⟩) cvs.length cap,.func (.func 183) #[] #[]] wx (DelPost g (cvs.map (·.1)) wx)):=fun g cap cur wx h1 h2 h3 h4 h5=>by
   have h:=DeleteFunc_calls (cvs.map (·.1)) g cap cur wx HKw.out (by rw[List.length_map];omega) (by rw[List.length_map];omega) h1 (by rw[List.length_map];exact h2) h3 h4 (by rw[List.length_map];exact h5)
   rwa [List.length_map] at h
  obtain⟨kc,hkc⟩:∃kc,kc=keptV cvs:=⟨_,rfl⟩
  have hkm:kept (cvs.map (·.1))=kc.map (·.1):=by rw[hkc,keptV_map]
  have hsub:∀p∈kc,p∈cvs:=fun p hp=>by rw[hkc] at hp;exact(List.mem_filter.1 hp).1
  have Hdel:Hid (∀p∈kc,p.1.del=false):=fun p hp=>by rw[hkc] at hp;simpa using (List.mem_filter.1 hp).2
  have hkle:kc.length≤cvs.length:=by rw[hkc];exact List.length_filter_le _ _
  have HOK:Hid (ApOK [] kc d):=by rw[hkc];exact HOKw.out.kept
  have happ:zGI [] cvs=zGI [] kc:=by rw[hkc,appE_kept]
  have HKc:Hid (KeysCh (kc.map (·.1))):=fun c hc=>by obtain⟨p,hp,rfl⟩:=List.mem_map.1 hc;exact HOK.out.key p hp
  have HGw:=Lib.hid (HGw0.out.sub hsub);rw[happ] at HP;have hcm:=costA_mono kc.length cvs.length d (by omega) hkle;clear HOKw HKw hkc happ hsub HGw0;have hkc0:∀b:Bool,decide (kc.length=0)=b→(((kc.length:Nat):Int)==0)=b:=fun b h=>by
   rw[←h,Bool.eq_iff_iff];simp
  have hkc1:∀b:Bool,decide (kc.length=1)=b→(((kc.length:Nat):Int)==1)=b:=fun b h=>by
   rw[←h,Bool.eq_iff_iff];simp;omega
  rcases Nat.lt_or_ge kc.length 2 with hm | hm2
  ·rcases Nat.eq_zero_or_pos kc.length with hm0 | hm1
   ·have HE:Hid (zCI (n+1) (zGI [] kc) d=.nil):=by
     have h5:kc=[]:=List.length_eq_zero_iff.1 hm0;rw[h5];rfl
    have hk0:=hkc0 true (by simpa using hm0);clear hkc0 hkc1 HIH;go_enter Tryz.func156,Tryz.ntmps156
    go_wp2_with (first
     |(go_at_call 39;refine(zDT _).mono ?_;rintro e w6 ⟨rfl,hw6⟩;obtain rfl:=hw6.symm;clear hw6)
     |(go_at_call 182;refine HCl.out.mono ?_;rintro e w2 ⟨vc,rfl,hown,hb2⟩;obtain⟨g,cap,cur,rfl,hbg,hrow,hcap,hcap2,hsz,htk⟩:=own_open hown (by rw[List.length_map];omega);rw[List.length_map] at hcap htk ⊢;have Htk:=Lib.hid htk;clear hown htk)
     |(go_at_call 181;refine(HDe.out g cap cur _ hrow hcap hcap2 hsz Htk.out).mono ?_;rintro e w5 ⟨v5,rfl,hr5,hg5⟩;have hb5:Below w.heap.size w w5:=hb2.grown hg5 hb2.size (fun k e=>by cases e;exact hbg);rw[hkm] at hr5;obtain⟨a3,c3,rfl,_⟩:=hr5.form;rw[List.length_map] at hr5 ⊢;have HL:=Lib.hid hr5;clear hr5 hg5 hb2 hrow hbg hcap hcap2 hsz Htk))
    exact HP.out _ none N (by rw[HE.out];rfl) (zHE hb5) (HH.out.call hb5) (Int.le_refl _) (by have:=zCK cvs.length d (by omega);omega)
   ·have hk0:=hkc0 false (by simpa using (by omega:¬kc.length=0))
    have hk1:=hkc1 true (by simpa using (by omega:kc.length=1));clear hkc0 hkc1 HIH;go_enter Tryz.func156,Tryz.ntmps156
    go_wp2_with (first
     |(go_at_call 39;refine(zDT _).mono ?_;rintro e w6 ⟨rfl,hw6⟩;obtain rfl:=hw6.symm;clear hw6)
     |(go_at_call 182;refine HCl.out.mono ?_;rintro e w2 ⟨vc,rfl,hown,hb2⟩;obtain⟨g,cap,cur,rfl,hbg,hrow,hcap,hcap2,hsz,htk⟩:=own_open hown (by rw[List.length_map];omega);rw[List.length_map] at hcap htk ⊢;have Htk:=Lib.hid htk;clear hown htk)
     |(go_at_call 181;refine(HDe.out g cap cur _ hrow hcap hcap2 hsz Htk.out).mono ?_;rintro e w5 ⟨v5,rfl,hr5,hg5⟩;have hb5:Below w.heap.size w w5:=hb2.grown hg5 hb2.size (fun k e=>by cases e;exact hbg);rw[hkm] at hr5;obtain⟨a3,c3,rfl,_⟩:=hr5.form;rw[List.length_map] at hr5 ⊢;obtain⟨hc3,gb,go,rfl⟩:=hr5.spot (by omega);have HL:=Lib.hid hr5;clear hr5 hg5 hb2 hrow hbg hcap hcap2 hsz Htk))
    obtain⟨p,hp⟩:∃p,kc=[p]:=List.length_eq_one_iff.1 (by omega);have Hp:=Lib.hid hp;have hL1:RdCh w5 (.slice (some ⟨gb,go,none⟩) kc.length c3) ([p].map (·.1)):=by rw[←hp];exact HL.out
    have hcl:=hL1.first
    have hpm:p∈kc:=by rw[hp];exact List.mem_singleton.2 rfl
    have hkp:Key p.1.k:=HOK.out.key p hpm;have hkK:=Lib.hid (hcl.sub 0 32);have hE:Hid (zCI (n+1) (zGI [] kc) d=.leaf p.1.k p.2):=by rw[Hp.out];exact ap_one n d p (fun h=>by have:=Hdel.out p (by rw[Hp.out];exact List.mem_singleton.2 rfl);rw[this] at h;cases h)
    have hv33:w5.cell? ⟨gb,go+32,none⟩=some (.slice p.1.va p.1.vn p.1.vc):=hcl 32 _ (by unfold chc;rw[List.getElem?_append_right (by rw[zAI,hkp.len];exact Nat.le_refl _),zAI,hkp.len];rfl);have hkC:Hid (CellsAt w5 gb go (zAJ p.1.k)):=by
     have h:=hkK.out;rw[Nat.add_zero] at h;have e:((chc p.1).drop 0).take 32=zAJ p.1.k:=by unfold chc;rw[List.drop_zero,List.take_left' (by rw[zAI,hkp.len])]
     rwa [e] at h
    obtain⟨hgv,hg256,hgl,hgn⟩:=HGw.out p hpm;rw[hgn] at hgv hv33;have HN:=Lib.hid (fun wx h1 h2 h3=>zIR KK p.1.k p.2 p.1.va p.1.vc hb cb bits N wx h1 hB (by have:=zCK cvs.length d (by omega);omega) hkp hg256 (by omega) h2 h3);have HL2:=Lib.hid (show Key p.1.k∧(∀x∈p.2,x<256)∧p.2.length≤100000 from ⟨hkp,hg256,hgl⟩);have Hkp:=Lib.hid hkp;have HGv:=Lib.hid hgv;have HBe:=Lib.hid (zIT p.1.k p.1.va p.2.length p.1.vc hkp.len);have hc2:2≤zEI kc.length d:=costA_one d (by omega) _ hm1;have st5:StH w cb N [] w5:=StH.call' (StH.init HH.out (St.init w)) hb5;clear hL1 hcl hkp hgv hg256 hgl hpm hkK hgn hp;refine Mix.wp_region_mix 10 (fun wx=>Below w5.heap.size w5 wx) zBL (by kernel_rfl) (Below.refl _ _).drew ?_;intro F inv;refine Mix.good_batch (f:=0) F (fun _ _ h hb=>h.trans (hb.mono h.size)) [0,1,2,3,4,5,6,7,8,9] _ _ inv (by kernel_rfl) ?_;clear inv
    iterate 4
     (refine Mix.wpUp_cons rfl (fun K hK=>?_);go_simp;apply zAU;· (intro wx hw;go_simp;(try go_ints);(try go_simp);(try (rw[if_pos (by omega)]));(try go_simp);(first | done | rfl))
      refine hK _ ?_;clear hK K)
    (refine Mix.wpUp_cons rfl (fun K hK=>?_);go_simp;refine up_loadG 37 _ rfl gb go rfl zBN (zAJ p.1.k) (by rw[zAI,Hkp.out.len];exact zBC) (fun wx hw=>hkC.out.call hw) ?_;rw[zBK]
     refine hK _ ?_;clear hK K)
    iterate 3
     (refine Mix.wpUp_cons rfl (fun K hK=>?_);go_simp;apply zAU;· (intro wx hw;go_simp;(try go_ints);(try go_simp);(try (rw[if_pos (by omega)]));(try go_simp);(first | done | rfl))
      refine hK _ ?_;clear hK K)
    iterate 1
     (refine Mix.wpUp_cons rfl (fun K hK=>?_);go_simp;apply zAU;· (intro wx hw;have q1:=(fun (x:World) (h:Below w5.heap.size w5 x)=>(h.cell (zAS hv33)).trans hv33) wx hw;go_simp;(try go_ints);(try go_simp);(try (rw[if_pos (by omega)]));(try go_simp);(first | done | rfl))
      refine hK _ ?_;clear hK K)
    (refine Mix.wpUp_cons rfl (fun K hK=>?_);go_simp;refine zFN 52 _ rfl (zBB 0 [.agg (kv p.1.k),.slice p.1.va p.2.length p.1.vc]) (by simp[Act.eval,zBB]) _ HBe.out ?_
     refine hK _ ?_;clear hK K)
    refine Mix.wpUp_nil ?_;intro inv;refine⟨by kernel_rfl,fun w10 hb10=>?_⟩;have st10:=StH.call' st5 hb10;clear st5;simp only[List.drop_succ_cons,List.drop_zero,Act.put,List.getElem_toArray,List.getElem_cons_succ,List.getElem_cons_zero,List.setIfInBounds_toArray,List.set_cons_succ,List.set_cons_zero]
    go_wp2_with (first
     |(go_at_call 143;refine(HN.out _ (StH.has st10 HH.out) (StH.rd st10 HH.out HGv.out) (StH.hasK st10 HH.out HKK.out)).mono ?_;rintro e w11 ⟨nb,a2,c2,rfl,hnb,hrow,hrd,hg,hh11⟩))
    have st11:=StH.sum st10 HH.out hg hh11;have hrl:RepT KK bits w11 (some ⟨nb,0,none⟩) (.leaf p.1.k p.2):=⟨nb,a2,c2,rfl,hrow,hrd,HL2.out⟩
    rw[←hE.out] at hrl;exact HP.out _ _ _ hrl (StH.grown st11) (StH.has st11 HH.out) (by omega) (by omega)
  ·have hk0:=hkc0 false (by simpa using (by omega:¬kc.length=0))
   have hk1:=hkc1 false (by simpa using (by omega:¬kc.length=1));have hd256:d<256:=HOK.out.deep hm2;have hnn:1≤n:=by omega
   have HRn:Hid (RepT KK bits w none .nil):=show RepT KK bits w none .nil from rfl
   have HIx:Hid (∀b:Nat,b<2→∀(q:Option Addr)(l':Value) (N':Int) (w':World),RepT KK bits w' q (zCH .nil (b:Nat))→GoodCV w' (zFJ kc d b)→RdCh w' l' ((zFJ kc d b).map (·.1))→HasH hb cb bits N' w'→HasK KK w'→0≤N'→N'+zEI (zFJ kc d b).length (d+1)≤3999999999999980000 →
     Calls Tryz.prog 156 #[.pointer (some ⟨hb,0,none⟩),.pointer q,l',.int .i64 ((d:Nat)+1)] w' (TPost KK bits hb cb N' (zEI (zFJ kc d b).length (d+1)) (zCI n (zGI (zBY [] d b) (zFJ kc d b)) (d+1)) w')):=fun b hb2 q l' N' w' h1 h2 h3 h4 h5 h6 h7=>by
    obtain rfl:q=none:=by
     have e:zCH .nil (b:Nat)=.nil:=by rcases(by omega:b=0∨b=1) with rfl | rfl<;>rfl
     rw[e] at h1;exact h1
    exact HIH.out hd256 (zFJ kc d b) l' N' w' (HOK.out.part b) h2 (Nat.le_trans (List.length_filter_le _ _) (by omega)) h3 h4 h5 h6 h7
   clear hkc0 hkc1 HIH;go_enter Tryz.func156,Tryz.ntmps156
   go_wp2_with (first
    |(go_at_call 39;refine(zDT _).mono ?_;rintro e w6 ⟨rfl,hw6⟩;obtain rfl:=hw6.symm;clear hw6)
    |(go_at_call 182;refine HCl.out.mono ?_;rintro e w2 ⟨vc,rfl,hown,hb2⟩;obtain⟨g,cap,cur,rfl,hbg,hrow,hcap,hcap2,hsz,htk⟩:=own_open hown (by rw[List.length_map];omega);rw[List.length_map] at hcap htk ⊢;have Htk:=Lib.hid htk;clear hown htk)
    |(go_at_call 181;refine(HDe.out g cap cur _ hrow hcap hcap2 hsz Htk.out).mono ?_;rintro e w5 ⟨v5,rfl,hr5,hg5⟩;have hb5:Below w.heap.size w w5:=hb2.grown hg5 hb2.size (fun k e=>by cases e;exact hbg);rw[hkm] at hr5;obtain⟨a3,c3,rfl,_⟩:=hr5.form;rw[List.length_map] at hr5 ⊢;obtain⟨hc3,gb,go,rfl⟩:=hr5.spot (by omega);have HL:=Lib.hid hr5;clear hr5 hg5 hb2 hrow hbg hcap hcap2 hsz Htk)
    |(go_at_call 178;fail))
   have hdi:((d:Nat):Int)<256:=by omega
   have hkl:(kc.map (fun p:CV=>p.1.k)).length=kc.length:=List.length_map _;have hkm2:(kc.map (·.1)).map (fun c:Chg=>c.k)=kc.map (fun p:CV=>p.1.k):=by rw[List.map_map];rfl
   have HKs:=Lib.hid (Keys2_calls (kc.map (·.1)) (.slice (some ⟨gb,go,none⟩) kc.length c3) w5 HKc.out (by rw[List.length_map];omega) HL.out);rw[hkm2] at HKs;have HSp:Hid (∀v4 wx,RdKs wx v4 (kc.map (fun p:CV=>p.1.k))→Calls Tryz.prog 184 #[v4,.int .i64 (d:Nat)] wx fun e w'=>∃s:Nat,e=.returned (.int .i64 (s:Nat))∧s≤kc.length∧(∀x (hx:x<kc.length),x<s→zBO kc[x].1.k d=0)∧(∀x (hx:x<kc.length),s≤x→zBO kc[x].1.k d=1)∧Below wx.heap.size wx w'):=fun v4 wx h =>
    (Split_calls (kc.map (fun p:CV=>p.1.k)) v4 d hd256 wx (fun k hk=>by obtain⟨p,hp,rfl⟩:=List.mem_map.1 hk;exact HOK.out.key p hp) (by rw[hkl];omega) h HOK.out.mono).mono fun e w' ⟨s,h1,h2,h3,h4,h5⟩ =>
     ⟨s,h1,by rw[hkl] at h2;exact h2,fun x hx hxs=>by have:=h3 x (by rw[hkl];exact hx) hxs;rwa [List.getElem_map] at this,fun x hx hxs=>by have:=h4 x (by rw[hkl];exact hx) hxs;rwa [List.getElem_map] at this,h5⟩
   have HSl:=Lib.hid (fun s (hs:s≤kc.length)=>RdCh.cut HL.out s hs);have HGn:=Lib.hid (fun (p:Option Addr) (n:Int) (q:Option Addr) (l r:Tr) (wx:World) h1 h2 h3 h4 h5=>zIV KK l r p q hb cb bits n wx h1 hB h2 h3 h4 h5);clear hkm2
   go_wp2_with (first
    |(go_at_call 178;refine HKs.out.mono ?_;rintro e w6 ⟨v6,rfl,hr6,hb6⟩;have HR6:=Lib.hid hr6;clear hr6)
    |(go_at_call 184;refine(HSp.out _ _ HR6.out).mono ?_;rintro e w7 ⟨s,rfl,hs,h0,h1,hb7⟩))
   have hb57:Below w5.heap.size w5 w7:=hb6.trans (hb7.mono hb6.size);obtain⟨hc0,hc1⟩:=split_parts kc d s h0 h1;have st7:StH w cb N [] w7:=StH.call' (StH.init HH.out (St.init w)) (hb5.trans (hb57.mono hb5.size));obtain⟨hL0,hL1⟩:=HSl.out s hs;rw[←hc0] at hL0;rw[←hc1] at hL1;have e0:(zFJ kc d 0).length=s:=by rw[hc0,List.length_take,Nat.min_eq_left hs]
   have e1:(zFJ kc d 1).length=kc.length - s:=by rw[hc1,List.length_drop]
   have HI0:=Lib.hid (HIx.out 0 (by decide));have HI1:=Lib.hid (HIx.out 1 (by decide));have HC0:=Lib.hid e0;have HC1:=Lib.hid e1;have hcs:3+zEI s (d+1)+zEI (kc.length - s) (d+1)≤zEI kc.length d:=(by have:=costA_split1 s (kc.length - s) d (by omega);rwa [Nat.add_sub_cancel' hs] at this)
   have hz0:=zCK s (d+1) (by omega);have hz1:=zCK (kc.length - s) (d+1) (by omega);have HQ0:=Lib.hid (hL0.call hb57);have HQ1:=Lib.hid (hL1.call hb57);have HSL0:=Lib.hid (fun wx=>run_slice_cutN (P:=Tryz.prog) (sz:=34) zDE zCD (some ⟨gb,go,none⟩) kc.length c3 .i64 s (by omega) (fun x hx=>by cases hx;rfl) wx);have HSL1:=Lib.hid (fun wx=>zHU (P:=Tryz.prog) (sz:=34) zDE zCD (some ⟨gb,go,none⟩) kc.length c3 .i64 s hs wx);have hG7:=HGw.out.data ((DataKept.call hb5).trans (DataKept.call hb57));have HG0:=Lib.hid (hG7.sub (cvs':=zFJ kc d 0) (fun p hp=>(List.mem_filter.1 hp).1));have HG1:=Lib.hid (hG7.sub (cvs':=zFJ kc d 1) (fun p hp=>(List.mem_filter.1 hp).1));rw[HC0.out] at HI0;rw[HC1.out] at HI1;clear HIx HSl HKs HSp HR6 hb6 hb7 h0 h1 hc0 hc1 hL0 hL1 e0 e1 hG7 hb57;generalize (if c3=s then some (⟨gb,go,none⟩:Addr) else (some (⟨gb,go,none⟩:Addr)).map fun x=>x.add (s*34))=a7 at *;generalize (Value.slice a7 (kc.length - s) (c3 - s))=l7 at *;refine Mix.wp_region_mix 9 (fun wx=>Below w7.heap.size w7 wx) zBL (by kernel_rfl) (Below.refl _ _).drew ?_;intro F inv
   refine Mix.good_batch (f:=1) F (fun _ _ h hb=>h.trans (hb.mono h.size)) [0,1,3,4,5,6,7,8] _ _ inv (by kernel_rfl) ?_;clear inv
   iterate 5
    (refine Mix.wpUp_cons rfl (fun K hK=>?_);go_simp;apply zAU;· (intro wx hw;go_simp;(try go_ints);(try go_simp);(try (rw[if_pos (by omega)]));(try go_simp);(first | done | rfl))
     refine hK _ ?_;clear hK K)
   iterate 1
    (refine Mix.wpUp_cons rfl (fun K hK=>?_);go_simp;apply zAU;· (intro wx hw;have q1:=(fun (x:World) (_:Below w7.heap.size w7 x)=>HSL0.out x) wx hw;go_simp;(try go_ints);(try go_simp);(try (rw[if_pos (by omega)]));(try go_simp);(first | done | rfl))
     refine hK _ ?_;clear hK K)
   iterate 2
    (refine Mix.wpUp_cons rfl (fun K hK=>?_);go_simp;apply zAU;· (intro wx hw;go_simp;(try go_ints);(try go_simp);(try (rw[if_pos (by omega)]));(try go_simp);(first | done | rfl))
     refine hK _ ?_;clear hK K)
   refine Mix.wpUp_nil ?_;intro inv;have hR7:=StH.rep st7 HH.out HRn.out;refine Mix.good_one (i:=2) (f:=0) (by kernel_rfl) inv (fun w8 hb8=>?_);clear inv;refine zAT rfl rfl 78 #[.pointer none,.int .i64 0] (by go_simp) ?_;refine(zDW KK bits .nil none 0 w7 w8 hR7 hb8).mono ?_;rintro e w9 ⟨q,rfl,hrq,hb9⟩;refine⟨_,rfl,fun wx=>Below w7.heap.size w7 wx,(fun _ _ h hb=>h.trans (hb.mono h.size)),hb8.trans (hb9.mono hb8.size),fun _ h=>h,fun inv=>?_⟩;clear hb8 hb9 hR7;refine⟨by kernel_rfl,fun w10 hb10=>?_⟩;have HA0:=Lib.hid (HI0.out q (.slice (some ⟨gb,go,none⟩) s s) N w10 (hrq.call hb10) (HG0.out.call hb10) (HQ0.out.call hb10) (StH.has (StH.call' st7 hb10) HH.out) (StH.hasK (StH.call' st7 hb10) HH.out HKK.out) (by omega) (by omega));have st10:=StH.call' st7 hb10;clear st7 hrq;simp only[List.drop_succ_cons,List.drop_zero,Act.put,List.getElem_toArray,List.getElem_cons_succ,List.getElem_cons_zero,List.setIfInBounds_toArray,List.set_cons_succ,List.set_cons_zero]
   go_wp2_with (first
    |(go_at_call 156;refine HA0.out.mono ?_;rintro e w11 ⟨p0,n1,rfl,hr0,hg11,hh11,hn1,hn1'⟩))
   have hk11:=(DataKept.call hb10).trans (DataKept.turn (StH.has st10 HH.out) hg11);have st11:=StH.sum st10 HH.out hg11 hh11;clear st10 hg11 hh11 hb10 HA0;have hR11:=StH.rep st11 HH.out HRn.out;refine Mix.wp_region_mix 8 (fun wx=>Below w11.heap.size w11 wx) zBL (by kernel_rfl) (Below.refl _ _).drew ?_;intro F inv;refine Mix.good_batch (f:=1) F (fun _ _ h hb=>h.trans (hb.mono h.size)) [0,1,3,4,5,6,7] _ _ inv (by kernel_rfl) ?_;clear inv
   iterate 4
    (refine Mix.wpUp_cons rfl (fun K hK=>?_);go_simp;apply zAU;· (intro wx hw;go_simp;(try go_ints);(try go_simp);(try (rw[if_pos (by omega)]));(try go_simp);(first | done | rfl))
     refine hK _ ?_;clear hK K)
   iterate 1
    (refine Mix.wpUp_cons rfl (fun K hK=>?_);go_simp;apply zAU;· (intro wx hw;have q1:=(fun (x:World) (_:Below w11.heap.size w11 x)=>HSL1.out x) wx hw;go_simp;(try go_ints);(try go_simp);(try (rw[if_pos (by omega)]));(try go_simp);(first | done | rfl))
     refine hK _ ?_;clear hK K)
   iterate 2
    (refine Mix.wpUp_cons rfl (fun K hK=>?_);go_simp;apply zAU;· (intro wx hw;go_simp;(try go_ints);(try go_simp);(try (rw[if_pos (by omega)]));(try go_simp);(first | done | rfl))
     refine hK _ ?_;clear hK K)
   refine Mix.wpUp_nil ?_;intro inv;refine Mix.good_one (i:=2) (f:=0) (by kernel_rfl) inv (fun w12 hb12=>?_);clear inv;refine zAT rfl rfl 78 #[.pointer none,.int .i64 1] (by go_simp) ?_;refine(zDW KK bits .nil none 1 w11 w12 hR11 hb12).mono ?_;rintro e w13 ⟨q',rfl,hrq,hb13⟩;refine⟨_,rfl,fun wx=>Below w11.heap.size w11 wx,(fun _ _ h hb=>h.trans (hb.mono h.size)),hb12.trans (hb13.mono hb12.size),fun _ h=>h,fun inv=>?_⟩;clear hb12 hb13 hR11;refine⟨by kernel_rfl,fun w14 hb14=>?_⟩;have hk14:=hk11.trans (DataKept.call hb14);have HA1:=Lib.hid (HI1.out q' l7 n1 w14 (hrq.call hb14) (HG1.out.data hk14) (RdG.data chc_data HQ1.out hk14) (StH.has (StH.call' st11 hb14) HH.out) (StH.hasK (StH.call' st11 hb14) HH.out HKK.out) (by omega) (by omega));have st14:=StH.call' st11 hb14;have Hr0:=Lib.hid (hr0.call hb14);clear st11 hrq hr0 hb14 hk11 hk14;simp only[List.drop_succ_cons,List.drop_zero,Act.put,List.getElem_toArray,List.getElem_cons_succ,List.getElem_cons_zero,List.setIfInBounds_toArray,List.set_cons_succ,List.set_cons_zero]
   go_wp2_with (first
    |(go_at_call 156;refine HA1.out.mono ?_;rintro e w15 ⟨p1,n2,rfl,hr1,hg15,hh15,hn2,hn2'⟩;have st15:=StH.sum st14 HH.out hg15 hh15;have Hr0':=Lib.hid (Hr0.out.turn (StH.has st14 HH.out) hg15);have Hr1:=Lib.hid hr1;clear st14 hg15 hh15 hr1)
    |(go_at_call 168;refine(HGn.out p0 n2 p1 _ _ _ (StH.has st15 HH.out) (by constructor<;>omega) (StH.hasK st15 HH.out HKK.out) Hr0'.out Hr1.out).mono ?_;rintro e w16 ⟨p2,n3,rfl,hr2,hg16,hh16,hn3,hn3'⟩))
   rw[←appE_part,←appE_part,join_bld hnn] at hr2;have st16:=StH.sum st15 HH.out hg16 hh16;exact HP.out _ _ _ hr2 (StH.grown st16) (StH.has st16 HH.out) (by omega) (by omega)
end
section
set_option maxHeartbeats 4000000
open Go Go.RowKit
attribute [local irreducible] Inv.wpInv Mix.wpUp
theorem ApNil_calls(KK:List Int)(hb cb:Nat)(bits:Int)(hB:0≤bits∧bits≤256):∀(n d:Nat)(cvs:List CV) (l:Value) (N:Int) (w:World),d+n=256→ApOK [] cvs d→GoodCV w cvs→cvs.length≤1000→RdCh w l (cvs.map (·.1))→HasH hb cb bits N w→HasK KK w→0≤N→N+zEI cvs.length d≤3999999999999980000 →
  Calls Tryz.prog 156 #[.pointer (some ⟨hb,0,none⟩),.pointer none,l,.int .i64 (d:Nat)] w (TPost KK bits hb cb N (zEI cvs.length d) (zCI (n+1) (zGI [] cvs) d) w)
 |0,d,cvs,l,N,w,hd,h1,h2,h3,h4,h5,h6,h7,h8=>ApNil_step KK hb cb bits hB 0 d hd cvs l N w h1 h2 h3 h4 h5 h6 h7 h8 (fun h=>by omega)
 |n+1,d,cvs,l,N,w,hd,h1,h2,h3,h4,h5,h6,h7,h8=>ApNil_step KK hb cb bits hB (n+1) d hd cvs l N w h1 h2 h3 h4 h5 h6 h7 h8 (fun _ cvs' l' N' w' g1 g2 g3 g4 g5 g6 g7 g8=>by
   have h:=ApNil_calls KK hb cb bits hB n (d+1) cvs' l' N' w' (by omega) g1 g2 g3 g4 g5 g6 g7 g8;have e:((d+1:Nat):Int)=(d:Int)+1:=by omega
   rw[e] at h;exact h)
theorem cmpL_flip:∀(a b:List Nat),0<zDV a b→zDV b a<0
 |[],[],h=>by simp[zDV] at h
 |[],_::_,h=>by simp[zDV] at h ⊢
 |_::_,[],h=>by simp[zDV] at h ⊢
 |x::a,y::b,h=>by
  unfold zDV at h ⊢;have ih:=cmpL_flip a b
  split at h
  ·omega
  ·split at h
   ·rw[if_pos (by omega)];omega
   ·rw[if_neg (by omega),if_neg (by omega)];exact ih h
theorem MergeCV_calls(KK:List Int)(bits:Int)(cvs:List CV)(l:Value)(k v:List Nat)(p:Option Addr)(d:Nat)(w:World)(hok:ApOK [(k,v)] cvs d)(hg:GoodCV w cvs)(hne:cvs≠[])(hn:cvs.length≤1000)(hv:RdCh w l (cvs.map (·.1)))(ht:RepT KK bits w p (.leaf k v)) :
  Calls Tryz.prog 180 #[.pointer p,l] w fun e w'=>∃(la:Option Addr) (mc:List CV) (lc:Nat),e=.returned (.slice la mc.length lc)∧Below w.heap.size w w'∧RdCh w' (.slice la mc.length lc) (mc.map (·.1))∧ApOK [] mc d∧GoodCV w' mc∧1≤mc.length∧mc.length≤cvs.length+1∧∀n,zCI (n+1) (zGI [] mc) d=zCI (n+1) (zGI [(k,v)] cvs) d:=by
 obtain⟨hkk,hvb,hvl⟩:Key k∧(∀x∈v,x<256)∧v.length≤100000:=by obtain⟨_,_,_,_,_,_,h⟩:=ht;exact h
 have hKeys:KeysCh (cvs.map (·.1)):=fun c hc=>by obtain⟨p,hp,rfl⟩:=List.mem_map.1 hc;exact hok.key p hp
 have hd0:DistB [] d:=⟨List.Pairwise.nil,fun e he=>(List.not_mem_nil he).elim,fun e he=>(List.not_mem_nil he).elim⟩
 have hpos:1≤cvs.length:=List.length_pos_iff.2 hne;refine(Merge_calls KK bits (cvs.map (·.1)) l k v p w hKeys hok.asc (fun e=>hne (by simpa using e)) (by rw[List.length_map];omega) hv ht).mono ?_;rintro e w' ⟨hb,⟨rfl,c,hc,hck⟩ | ⟨v',s,x,rfl,hs,h0,h1,hxk,hxd,hxn,hxv,hrd⟩⟩
 ·have hv':RdCh w' l (cvs.map (·.1)):=hv.call hb
  obtain⟨la,lc,rfl,_⟩:=hv'.form;rw[List.length_map] at hv' ⊢;obtain⟨q,hq,rfl⟩:=List.mem_map.1 hc;refine⟨la,cvs,lc,rfl,hb,hv',⟨hd0,hok.asc,hok.key,hok.pre,fun _ _ _ he=>(List.not_mem_nil he).elim⟩,hg.call hb,hpos,by omega,fun n=>?_⟩;have e:zGI [(k,v)] cvs=zGI [] cvs:=by
   unfold zGI;rw[List.filter_cons_of_neg];rw[show cvs.any (fun p=>decide (p.1.k=k))=true from List.any_eq_true.2 ⟨q,hq,decide_eq_true hck⟩];decide
  rw[e]
 ·rw[List.length_map] at hs
  have hmap:((cvs.take s++(x,v)::cvs.drop s).map (·.1))=(cvs.map (·.1)).take s++x::(cvs.map (·.1)).drop s:=by
   rw[List.map_append,List.map_cons,List.map_take,List.map_drop]
  have hlen:(cvs.take s++(x,v)::cvs.drop s).length=cvs.length+1:=by
   rw[List.length_append,List.length_cons,List.length_take,List.length_drop];omega
  rw[←hmap] at hrd;obtain⟨la,lc,rfl,_⟩:=hrd.form;rw[List.length_map] at hrd ⊢;have h0':∀q∈cvs.take s,zDV q.1.k k<0:=fun q hq=>by
   obtain⟨i,hi,rfl⟩:=List.getElem_of_mem hq;rw[List.length_take] at hi
   have:=h0 i (by rw[List.length_map];omega) (by omega);rw[List.getElem_map] at this;rw[List.getElem_take];exact this
  have h1':∀q∈cvs.drop s,0<zDV q.1.k k:=fun q hq=>by
   obtain⟨i,hi,rfl⟩:=List.getElem_of_mem hq;rw[List.length_drop] at hi
   have:=h1 (s+i) (by rw[List.length_map];omega) (by omega);rw[List.getElem_map] at this;rw[List.getElem_drop];exact this
  have hne':∀q∈cvs,q.1.k≠k:=fun q hq e=>by
   rw[←List.take_append_drop s cvs] at hq;rcases List.mem_append.1 hq with h | h
   ·have:=h0' q h
    rw[e,cmpL_self] at this;omega
   ·have:=h1' q h
    rw[e,cmpL_self] at this;omega
  have hmem:∀q∈cvs.take s++(x,v)::cvs.drop s,q∈cvs∨q=(x,v):=fun q hq=>by
   rcases List.mem_append.1 hq with h | h
   ·exact .inl (List.mem_of_mem_take h)
   ·rcases List.mem_cons.1 h with h | h
    ·exact .inr h
    ·exact .inl (List.mem_of_mem_drop h)
  have hbit:∀q∈cvs.take s++(x,v)::cvs.drop s,∀j<d,zBO q.1.k j=zBO k j:=fun q hq j hj=>by
   rcases hmem q hq with h | rfl
   ·exact hok.pe q h (k,v) (List.mem_singleton.2 rfl) j hj
   ·rw[hxk]
  refine⟨la,_,lc,rfl,hb,hrd,⟨hd0,?_,fun q hq=>?_,fun q hq q' hq' j hj=>(hbit q hq j hj).trans (hbit q' hq' j hj).symm,fun _ _ _ he=>(List.not_mem_nil he).elim⟩,fun q hq=>?_,by omega,by omega,fun n=>?_⟩
  ·unfold AscCh
   have hasc:=hok.asc;unfold AscCh at hasc;rw[List.pairwise_map] at hasc ⊢;have hsp:=hasc;rw[←List.take_append_drop s cvs] at hsp;obtain⟨g1,g2,g3⟩:=List.pairwise_append.1 hsp;refine List.pairwise_append.2 ⟨g1,List.pairwise_cons.2 ⟨fun q hq=>?_,g2⟩,fun a ha b hb'=>?_⟩
   ·show zDV x.k q.1.k<0
    rw[hxk];exact cmpL_flip _ _ (h1' q hq)
   ·rcases List.mem_cons.1 hb' with rfl | hb'
    ·show zDV a.1.k x.k<0
     rw[hxk];exact h0' a ha
    ·exact g3 a ha b hb'
  ·rcases hmem q hq with h | rfl
   ·exact hok.key q h
   ·show Key x.k
    rw[hxk];exact hkk
  ·rcases hmem q hq with h | rfl
   ·exact hg.call hb q h
   ·exact⟨hxv,hvb,hvl,hxn⟩
  ·refine bldT_perm (n+1) d ?_
   have e1:zGI [(k,v)] cvs=(k,v)::(cvs.filter fun p=>!p.1.del).map fun p=>(p.1.k,p.2):=by
    unfold zGI;rw[List.filter_cons_of_pos]
    ·rfl
    ·rw[show cvs.any (fun p=>decide (p.1.k=k))=false from List.any_eq_false.2 (fun q hq=>by simpa using hne' q hq)]
     rfl
   have e2:zGI [] (cvs.take s++(x,v)::cvs.drop s)=((cvs.take s).filter fun p=>!p.1.del).map (fun p=>(p.1.k,p.2))++(k,v)::((cvs.drop s).filter fun p=>!p.1.del).map (fun p=>(p.1.k,p.2)):=by
    unfold zGI;rw[List.filter_append,List.filter_cons_of_pos (by rw[hxd];rfl),List.map_append,List.map_cons,hxk];rfl
   have e3:(cvs.filter fun p=>!p.1.del).map (fun p=>(p.1.k,p.2))=((cvs.take s).filter fun p=>!p.1.del).map (fun p=>(p.1.k,p.2))++((cvs.drop s).filter fun p=>!p.1.del).map (fun p=>(p.1.k,p.2)):=by
    rw[←List.map_append,←List.filter_append,List.take_append_drop]
   rw[e1,e2,e3];exact List.perm_middle
set_option linter.unusedSimpArgs false in
set_option maxRecDepth 20000 in
theorem ApLeaf_calls(KK:List Int)(hb cb:Nat)(bits:Int)(hB:0≤bits∧bits≤256)(n d:Nat)(hdn:d+n=256)(ke ve:List Nat)(pl:Option Addr)(cvs0:List CV)(l:Value)(N:Int)(w0:World)(hok:ApOK [(ke,ve)] cvs0 d)(hg:GoodCV w0 cvs0)(hn:cvs0.length≤999)(hl:RdCh w0 l (cvs0.map (·.1)))(hh:HasH hb cb bits N w0)(hK:HasK KK w0)(hN:0≤N)(hNc:N+2*zEI cvs0.length d≤3999999999999980000)(ht:RepT KK bits w0 pl (.leaf ke ve)) :
  Calls Tryz.prog 156 #[.pointer (some ⟨hb,0,none⟩),.pointer pl,l,.int .i64 (d:Nat)] w0 (TPost KK bits hb cb N (2*zEI cvs0.length d) (zCI (n+1) (zGI [(ke,ve)] cvs0) d) w0):=by
 have HP0:Hid (∀(w':World)(p:Option Addr) (N':Int),RepT KK bits w' p (zCI (n+1) (zGI [(ke,ve)] cvs0) d)→w0.grownBy w' (some cb)→HasH hb cb bits N' w'→N≤N'→N'≤N+2*zEI cvs0.length d→TPost KK bits hb cb N (2*zEI cvs0.length d) (zCI (n+1) (zGI [(ke,ve)] cvs0) d) w0 (.returned (.pointer p)) w'):=fun w' p N' h1 h2 h3 h4 h5=>⟨p,N',rfl,h1,h2,h3,h4,h5⟩
 generalize TPost KK bits hb cb N (2*zEI cvs0.length d) (zCI (n+1) (zGI [(ke,ve)] cvs0) d) w0=R at *;have HV0:=Lib.hid hl;obtain⟨la0,lc0,rfl,_⟩:=hl.form;rw[List.length_map] at *;have hz:=zCK cvs0.length d (by omega);have hni0:((cvs0.length:Nat):Int)≤999:=by omega
 have HH0:=Lib.hid hh;have HK0:=Lib.hid hK;have Ht:=Lib.hid ht
 by_cases h0:cvs0=[]
 ·subst h0
  clear ht hl hh hK hg hok;go_enter Tryz.func156,Tryz.ntmps156;go_wp2;exact HP0.out _ pl N (by rw[appE_none,zGQ (by omega)];exact Ht.out) (zHE (Below.refl _ _)) HH0.out (Int.le_refl _) (by omega)
 ·have hpos0:0<cvs0.length:=List.length_pos_iff.2 h0
  have hl00:(((cvs0.length:Nat):Int)==0)=false:=by
   have h5:¬((cvs0.length:Nat):Int)=0:=by omega
   simpa using h5
  have HM:=Lib.hid (MergeCV_calls KK bits cvs0 (.slice la0 cvs0.length lc0) ke ve pl d w0 hok hg h0 (by omega) HV0.out ht);have HKd:=Lib.hid (zBW KK bits (.leaf ke ve) pl w0 ht);clear ht hl hh hK hg hok;go_enter Tryz.func156,Tryz.ntmps156;go_upto_region 5 with (first
   |(go_at_call 39;refine HKd.out.mono ?_;rintro e w6 ⟨rfl,hw6⟩;obtain rfl:=hw6.symm;clear hw6)
   |(go_at_call 180;refine HM.out.mono ?_;rintro e w ⟨la,cvs,lc,rfl,hb0,hrl,hokm,hgm,hm1',hmle,hbld⟩;have Hb0:=Lib.hid hb0;have HV:=Lib.hid hrl;have HOKw:=Lib.hid hokm;have HGw0:=Lib.hid hgm;have HBld:=Lib.hid hbld;clear hb0 hrl hokm hgm hbld))
  have hcc:zEI cvs.length d≤2*zEI cvs0.length d:=by
   have h1:=costA_mono cvs.length (2*cvs0.length) d (by omega) (by omega);have h2:zEI (2*cvs0.length) d=2*zEI cvs0.length d:=by
    unfold zEI;rw[Int.natCast_mul,Int.mul_assoc];rfl
   omega
  have HP:Hid (∀(w':World)(p:Option Addr) (N':Int),RepT KK bits w' p (zCI (n+1) (zGI [] cvs) d)→w.grownBy w' (some cb)→HasH hb cb bits N' w'→N≤N'→N'≤N+zEI cvs.length d→R (.returned (.pointer p)) w'):=fun w' p N' h1 h2 h3 h4 h5 =>
   HP0.out w' p N' (by rw[HBld.out] at h1;exact h1) ((zHE Hb0.out).trans h2) h3 h4 (by omega)
  have HH:=Lib.hid (HH0.out.call Hb0.out);have HKK:=Lib.hid (HK0.out.call Hb0.out);have hn:cvs.length≤1000:=by omega
  have hNc':N+zEI cvs.length d≤3999999999999980000:=by omega
  have HKw:Hid (KeysCh (cvs.map (·.1))):=fun c hc=>by obtain⟨p,hp,rfl⟩:=List.mem_map.1 hc;exact HOKw.out.key p hp
  have hni:((cvs.length:Nat):Int)≤1000:=by omega
  have h0':cvs≠[]:=fun e=>by rw[e] at hm1';simp at hm1'
  have hpos:0<cvs.length:=hm1';clear HP0 HV0 HH0 HK0 Ht HM HKd hmle hNc;have hl0:(((cvs.length:Nat):Int)==0)=false:=by
   have h5:¬((cvs.length:Nat):Int)=0:=by omega
   simpa using h5
  have hne:cvs.map (·.1)≠[]:=fun e=>h0' (by simpa using e)
  have HCl:=Lib.hid (CloneCh_calls (cvs.map (·.1)) (.slice la cvs.length lc) w hne HKw.out (by rw[List.length_map];omega) HV.out);have HDe:Hid (∀g cap cur (wx:World),wx.heap[g]?=some (.cells cur 276 (0,0))→cvs.length≤cap→cap≤maxLen→cur.size=cap*34→cur.toList.take (cvs.length*34)=(cvs.map (·.1)).flatMap chc→Calls Tryz.prog 181 #[.slice (some ⟨g,0,none⟩) cvs.length cap,.func (.func 183) #[] #[]] wx (DelPost g (cvs.map (·.1)) wx)):=fun g cap cur wx h1 h2 h3 h4 h5=>by
   have h:=DeleteFunc_calls (cvs.map (·.1)) g cap cur wx HKw.out (by rw[List.length_map];omega) (by rw[List.length_map];omega) h1 (by rw[List.length_map];exact h2) h3 h4 (by rw[List.length_map];exact h5)
   rwa [List.length_map] at h
  obtain⟨kc,hkc⟩:∃kc,kc=keptV cvs:=⟨_,rfl⟩
  have hkm:kept (cvs.map (·.1))=kc.map (·.1):=by rw[hkc,keptV_map]
  have hsub:∀p∈kc,p∈cvs:=fun p hp=>by rw[hkc] at hp;exact(List.mem_filter.1 hp).1
  have Hdel:Hid (∀p∈kc,p.1.del=false):=fun p hp=>by rw[hkc] at hp;simpa using (List.mem_filter.1 hp).2
  have hkle:kc.length≤cvs.length:=by rw[hkc];exact List.length_filter_le _ _
  have HOK:Hid (ApOK [] kc d):=by rw[hkc];exact HOKw.out.kept
  have happ:zGI [] cvs=zGI [] kc:=by rw[hkc,appE_kept]
  have HKc:Hid (KeysCh (kc.map (·.1))):=fun c hc=>by obtain⟨p,hp,rfl⟩:=List.mem_map.1 hc;exact HOK.out.key p hp
  have HGw:=Lib.hid (HGw0.out.sub hsub);rw[happ] at HP;have hcm:=costA_mono kc.length cvs.length d (by omega) hkle;clear HOKw HKw hkc happ hsub HGw0;have hkc0:∀b:Bool,decide (kc.length=0)=b→(((kc.length:Nat):Int)==0)=b:=fun b h=>by
   rw[←h,Bool.eq_iff_iff];simp
  have hkc1:∀b:Bool,decide (kc.length=1)=b→(((kc.length:Nat):Int)==1)=b:=fun b h=>by
   rw[←h,Bool.eq_iff_iff];simp;omega
  rcases Nat.lt_or_ge kc.length 2 with hm | hm2
  ·rcases Nat.eq_zero_or_pos kc.length with hm0 | hm1
   ·have HE:Hid (zCI (n+1) (zGI [] kc) d=.nil):=by
     have h5:kc=[]:=List.length_eq_zero_iff.1 hm0;rw[h5];rfl
    have hk0:=hkc0 true (by simpa using hm0);clear hkc0 hkc1
    go_wp2_with (first
     |(go_at_call 182;refine HCl.out.mono ?_;rintro e w2 ⟨vc,rfl,hown,hb2⟩;obtain⟨g,cap,cur,rfl,hbg,hrow,hcap,hcap2,hsz,htk⟩:=own_open hown (by rw[List.length_map];omega);rw[List.length_map] at hcap htk ⊢;have Htk:=Lib.hid htk;clear hown htk)
     |(go_at_call 181;refine(HDe.out g cap cur _ hrow hcap hcap2 hsz Htk.out).mono ?_;rintro e w5 ⟨v5,rfl,hr5,hg5⟩;have hb5:Below w.heap.size w w5:=hb2.grown hg5 hb2.size (fun k e=>by cases e;exact hbg);rw[hkm] at hr5;obtain⟨a3,c3,rfl,_⟩:=hr5.form;rw[List.length_map] at hr5 ⊢;have HL:=Lib.hid hr5;clear hr5 hg5 hb2 hrow hbg hcap hcap2 hsz Htk))
    exact HP.out _ none N (by rw[HE.out];rfl) (zHE hb5) (HH.out.call hb5) (Int.le_refl _) (by have:=zCK cvs.length d (by omega);omega)
   ·have hk0:=hkc0 false (by simpa using (by omega:¬kc.length=0))
    have hk1:=hkc1 true (by simpa using (by omega:kc.length=1));clear hkc0 hkc1
    go_wp2_with (first
     |(go_at_call 182;refine HCl.out.mono ?_;rintro e w2 ⟨vc,rfl,hown,hb2⟩;obtain⟨g,cap,cur,rfl,hbg,hrow,hcap,hcap2,hsz,htk⟩:=own_open hown (by rw[List.length_map];omega);rw[List.length_map] at hcap htk ⊢;have Htk:=Lib.hid htk;clear hown htk)
     |(go_at_call 181;refine(HDe.out g cap cur _ hrow hcap hcap2 hsz Htk.out).mono ?_;rintro e w5 ⟨v5,rfl,hr5,hg5⟩;have hb5:Below w.heap.size w w5:=hb2.grown hg5 hb2.size (fun k e=>by cases e;exact hbg);rw[hkm] at hr5;obtain⟨a3,c3,rfl,_⟩:=hr5.form;rw[List.length_map] at hr5 ⊢;obtain⟨hc3,gb,go,rfl⟩:=hr5.spot (by omega);have HL:=Lib.hid hr5;clear hr5 hg5 hb2 hrow hbg hcap hcap2 hsz Htk))
    obtain⟨p,hp⟩:∃p,kc=[p]:=List.length_eq_one_iff.1 (by omega);have Hp:=Lib.hid hp;have hL1:RdCh w5 (.slice (some ⟨gb,go,none⟩) kc.length c3) ([p].map (·.1)):=by rw[←hp];exact HL.out
    have hcl:=hL1.first
    have hpm:p∈kc:=by rw[hp];exact List.mem_singleton.2 rfl
    have hkp:Key p.1.k:=HOK.out.key p hpm;have hkK:=Lib.hid (hcl.sub 0 32);have hE:Hid (zCI (n+1) (zGI [] kc) d=.leaf p.1.k p.2):=by rw[Hp.out];exact ap_one n d p (fun h=>by have:=Hdel.out p (by rw[Hp.out];exact List.mem_singleton.2 rfl);rw[this] at h;cases h)
    have hv33:w5.cell? ⟨gb,go+32,none⟩=some (.slice p.1.va p.1.vn p.1.vc):=hcl 32 _ (by unfold chc;rw[List.getElem?_append_right (by rw[zAI,hkp.len];exact Nat.le_refl _),zAI,hkp.len];rfl);have hkC:Hid (CellsAt w5 gb go (zAJ p.1.k)):=by
     have h:=hkK.out;rw[Nat.add_zero] at h;have e:((chc p.1).drop 0).take 32=zAJ p.1.k:=by unfold chc;rw[List.drop_zero,List.take_left' (by rw[zAI,hkp.len])]
     rwa [e] at h
    obtain⟨hgv,hg256,hgl,hgn⟩:=HGw.out p hpm;rw[hgn] at hgv hv33;have HN:=Lib.hid (fun wx h1 h2 h3=>zIR KK p.1.k p.2 p.1.va p.1.vc hb cb bits N wx h1 hB (by have:=zCK cvs.length d (by omega);omega) hkp hg256 (by omega) h2 h3);have HL2:=Lib.hid (show Key p.1.k∧(∀x∈p.2,x<256)∧p.2.length≤100000 from ⟨hkp,hg256,hgl⟩);have Hkp:=Lib.hid hkp;have HGv:=Lib.hid hgv;have HBe:=Lib.hid (zIT p.1.k p.1.va p.2.length p.1.vc hkp.len);have hc2:2≤zEI kc.length d:=costA_one d (by omega) _ hm1;have st5:StH w cb N [] w5:=StH.call' (StH.init HH.out (St.init w)) hb5;clear hL1 hcl hkp hgv hg256 hgl hpm hkK hgn hp;refine Mix.wp_region_mix 10 (fun wx=>Below w5.heap.size w5 wx) zBL (by kernel_rfl) (Below.refl _ _).drew ?_;intro F inv;refine Mix.good_batch (f:=0) F (fun _ _ h hb=>h.trans (hb.mono h.size)) [0,1,2,3,4,5,6,7,8,9] _ _ inv (by kernel_rfl) ?_;clear inv
    iterate 4
     (refine Mix.wpUp_cons rfl (fun K hK=>?_);go_simp;apply zAU;· (intro wx hw;go_simp;(try go_ints);(try go_simp);(try (rw[if_pos (by omega)]));(try go_simp);(first | done | rfl))
      refine hK _ ?_;clear hK K)
    (refine Mix.wpUp_cons rfl (fun K hK=>?_);go_simp;refine up_loadG 37 _ rfl gb go rfl zBN (zAJ p.1.k) (by rw[zAI,Hkp.out.len];exact zBC) (fun wx hw=>hkC.out.call hw) ?_;rw[zBK]
     refine hK _ ?_;clear hK K)
    iterate 3
     (refine Mix.wpUp_cons rfl (fun K hK=>?_);go_simp;apply zAU;· (intro wx hw;go_simp;(try go_ints);(try go_simp);(try (rw[if_pos (by omega)]));(try go_simp);(first | done | rfl))
      refine hK _ ?_;clear hK K)
    iterate 1
     (refine Mix.wpUp_cons rfl (fun K hK=>?_);go_simp;apply zAU;· (intro wx hw;have q1:=(fun (x:World) (h:Below w5.heap.size w5 x)=>(h.cell (zAS hv33)).trans hv33) wx hw;go_simp;(try go_ints);(try go_simp);(try (rw[if_pos (by omega)]));(try go_simp);(first | done | rfl))
      refine hK _ ?_;clear hK K)
    (refine Mix.wpUp_cons rfl (fun K hK=>?_);go_simp;refine zFN 52 _ rfl (zBB 0 [.agg (kv p.1.k),.slice p.1.va p.2.length p.1.vc]) (by simp[Act.eval,zBB]) _ HBe.out ?_
     refine hK _ ?_;clear hK K)
    refine Mix.wpUp_nil ?_;intro inv;refine⟨by kernel_rfl,fun w10 hb10=>?_⟩;have st10:=StH.call' st5 hb10;clear st5;simp only[List.drop_succ_cons,List.drop_zero,Act.put,List.getElem_toArray,List.getElem_cons_succ,List.getElem_cons_zero,List.setIfInBounds_toArray,List.set_cons_succ,List.set_cons_zero]
    go_wp2_with (first
     |(go_at_call 143;refine(HN.out _ (StH.has st10 HH.out) (StH.rd st10 HH.out HGv.out) (StH.hasK st10 HH.out HKK.out)).mono ?_;rintro e w11 ⟨nb,a2,c2,rfl,hnb,hrow,hrd,hg,hh11⟩))
    have st11:=StH.sum st10 HH.out hg hh11;have hrl:RepT KK bits w11 (some ⟨nb,0,none⟩) (.leaf p.1.k p.2):=⟨nb,a2,c2,rfl,hrow,hrd,HL2.out⟩
    rw[←hE.out] at hrl;exact HP.out _ _ _ hrl (StH.grown st11) (StH.has st11 HH.out) (by omega) (by omega)
  ·have hk0:=hkc0 false (by simpa using (by omega:¬kc.length=0))
   have hk1:=hkc1 false (by simpa using (by omega:¬kc.length=1));have hd256:d<256:=HOK.out.deep hm2;have hnn:1≤n:=by omega
   have HRn:Hid (RepT KK bits w none .nil):=show RepT KK bits w none .nil from rfl
   have HIx:Hid (∀b:Nat,b<2→∀(q:Option Addr)(l':Value) (N':Int) (w':World),RepT KK bits w' q (zCH .nil (b:Nat))→GoodCV w' (zFJ kc d b)→RdCh w' l' ((zFJ kc d b).map (·.1))→HasH hb cb bits N' w'→HasK KK w'→0≤N'→N'+zEI (zFJ kc d b).length (d+1)≤3999999999999980000 →
     Calls Tryz.prog 156 #[.pointer (some ⟨hb,0,none⟩),.pointer q,l',.int .i64 ((d:Nat)+1)] w' (TPost KK bits hb cb N' (zEI (zFJ kc d b).length (d+1)) (zCI n (zGI (zBY [] d b) (zFJ kc d b)) (d+1)) w')):=fun b hb2 q l' N' w' h1 h2 h3 h4 h5 h6 h7=>by
    obtain rfl:q=none:=by
     have e:zCH .nil (b:Nat)=.nil:=by rcases(by omega:b=0∨b=1) with rfl | rfl<;>rfl
     rw[e] at h1;exact h1
    have h:=ApNil_calls KK hb cb bits hB (n - 1) (d+1) (zFJ kc d b) l' N' w' (by omega) (HOK.out.part b) h2 (Nat.le_trans (List.length_filter_le _ _) (by omega)) h3 h4 h5 h6 h7;have e:((d+1:Nat):Int)=(d:Int)+1:=by omega
    rw[e,Nat.sub_add_cancel hnn] at h;exact h
   clear hkc0 hkc1
   go_wp2_with (first
    |(go_at_call 182;refine HCl.out.mono ?_;rintro e w2 ⟨vc,rfl,hown,hb2⟩;obtain⟨g,cap,cur,rfl,hbg,hrow,hcap,hcap2,hsz,htk⟩:=own_open hown (by rw[List.length_map];omega);rw[List.length_map] at hcap htk ⊢;have Htk:=Lib.hid htk;clear hown htk)
    |(go_at_call 181;refine(HDe.out g cap cur _ hrow hcap hcap2 hsz Htk.out).mono ?_;rintro e w5 ⟨v5,rfl,hr5,hg5⟩;have hb5:Below w.heap.size w w5:=hb2.grown hg5 hb2.size (fun k e=>by cases e;exact hbg);rw[hkm] at hr5;obtain⟨a3,c3,rfl,_⟩:=hr5.form;rw[List.length_map] at hr5 ⊢;obtain⟨hc3,gb,go,rfl⟩:=hr5.spot (by omega);have HL:=Lib.hid hr5;clear hr5 hg5 hb2 hrow hbg hcap hcap2 hsz Htk)
    |(go_at_call 178;fail))
   have hdi:((d:Nat):Int)<256:=by omega
   have hkl:(kc.map (fun p:CV=>p.1.k)).length=kc.length:=List.length_map _;have hkm2:(kc.map (·.1)).map (fun c:Chg=>c.k)=kc.map (fun p:CV=>p.1.k):=by rw[List.map_map];rfl
   have HKs:=Lib.hid (Keys2_calls (kc.map (·.1)) (.slice (some ⟨gb,go,none⟩) kc.length c3) w5 HKc.out (by rw[List.length_map];omega) HL.out);rw[hkm2] at HKs;have HSp:Hid (∀v4 wx,RdKs wx v4 (kc.map (fun p:CV=>p.1.k))→Calls Tryz.prog 184 #[v4,.int .i64 (d:Nat)] wx fun e w'=>∃s:Nat,e=.returned (.int .i64 (s:Nat))∧s≤kc.length∧(∀x (hx:x<kc.length),x<s→zBO kc[x].1.k d=0)∧(∀x (hx:x<kc.length),s≤x→zBO kc[x].1.k d=1)∧Below wx.heap.size wx w'):=fun v4 wx h =>
    (Split_calls (kc.map (fun p:CV=>p.1.k)) v4 d hd256 wx (fun k hk=>by obtain⟨p,hp,rfl⟩:=List.mem_map.1 hk;exact HOK.out.key p hp) (by rw[hkl];omega) h HOK.out.mono).mono fun e w' ⟨s,h1,h2,h3,h4,h5⟩ =>
     ⟨s,h1,by rw[hkl] at h2;exact h2,fun x hx hxs=>by have:=h3 x (by rw[hkl];exact hx) hxs;rwa [List.getElem_map] at this,fun x hx hxs=>by have:=h4 x (by rw[hkl];exact hx) hxs;rwa [List.getElem_map] at this,h5⟩
   have HSl:=Lib.hid (fun s (hs:s≤kc.length)=>RdCh.cut HL.out s hs);have HGn:=Lib.hid (fun (p:Option Addr) (n:Int) (q:Option Addr) (l r:Tr) (wx:World) h1 h2 h3 h4 h5=>zIV KK l r p q hb cb bits n wx h1 hB h2 h3 h4 h5);clear hkm2
   go_wp2_with (first
    |(go_at_call 178;refine HKs.out.mono ?_;rintro e w6 ⟨v6,rfl,hr6,hb6⟩;have HR6:=Lib.hid hr6;clear hr6)
    |(go_at_call 184;refine(HSp.out _ _ HR6.out).mono ?_;rintro e w7 ⟨s,rfl,hs,h0,h1,hb7⟩))
   have hb57:Below w5.heap.size w5 w7:=hb6.trans (hb7.mono hb6.size);obtain⟨hc0,hc1⟩:=split_parts kc d s h0 h1;have st7:StH w cb N [] w7:=StH.call' (StH.init HH.out (St.init w)) (hb5.trans (hb57.mono hb5.size));obtain⟨hL0,hL1⟩:=HSl.out s hs;rw[←hc0] at hL0;rw[←hc1] at hL1;have e0:(zFJ kc d 0).length=s:=by rw[hc0,List.length_take,Nat.min_eq_left hs]
   have e1:(zFJ kc d 1).length=kc.length - s:=by rw[hc1,List.length_drop]
   have HI0:=Lib.hid (HIx.out 0 (by decide));have HI1:=Lib.hid (HIx.out 1 (by decide));have HC0:=Lib.hid e0;have HC1:=Lib.hid e1;have hcs:3+zEI s (d+1)+zEI (kc.length - s) (d+1)≤zEI kc.length d:=(by have:=costA_split1 s (kc.length - s) d (by omega);rwa [Nat.add_sub_cancel' hs] at this)
   have hz0:=zCK s (d+1) (by omega);have hz1:=zCK (kc.length - s) (d+1) (by omega);have HQ0:=Lib.hid (hL0.call hb57);have HQ1:=Lib.hid (hL1.call hb57);have HSL0:=Lib.hid (fun wx=>run_slice_cutN (P:=Tryz.prog) (sz:=34) zDE zCD (some ⟨gb,go,none⟩) kc.length c3 .i64 s (by omega) (fun x hx=>by cases hx;rfl) wx);have HSL1:=Lib.hid (fun wx=>zHU (P:=Tryz.prog) (sz:=34) zDE zCD (some ⟨gb,go,none⟩) kc.length c3 .i64 s hs wx);have hG7:=HGw.out.data ((DataKept.call hb5).trans (DataKept.call hb57));have HG0:=Lib.hid (hG7.sub (cvs':=zFJ kc d 0) (fun p hp=>(List.mem_filter.1 hp).1));have HG1:=Lib.hid (hG7.sub (cvs':=zFJ kc d 1) (fun p hp=>(List.mem_filter.1 hp).1));rw[HC0.out] at HI0;rw[HC1.out] at HI1;clear HIx HSl HKs HSp HR6 hb6 hb7 h0 h1 hc0 hc1 hL0 hL1 e0 e1 hG7 hb57;generalize (if c3=s then some (⟨gb,go,none⟩:Addr) else (some (⟨gb,go,none⟩:Addr)).map fun x=>x.add (s*34))=a7 at *;generalize (Value.slice a7 (kc.length - s) (c3 - s))=l7 at *;refine Mix.wp_region_mix 9 (fun wx=>Below w7.heap.size w7 wx) zBL (by kernel_rfl) (Below.refl _ _).drew ?_;intro F inv
   refine Mix.good_batch (f:=1) F (fun _ _ h hb=>h.trans (hb.mono h.size)) [0,1,3,4,5,6,7,8] _ _ inv (by kernel_rfl) ?_;clear inv
   iterate 5
    (refine Mix.wpUp_cons rfl (fun K hK=>?_);go_simp;apply zAU;· (intro wx hw;go_simp;(try go_ints);(try go_simp);(try (rw[if_pos (by omega)]));(try go_simp);(first | done | rfl))
     refine hK _ ?_;clear hK K)
   iterate 1
    (refine Mix.wpUp_cons rfl (fun K hK=>?_);go_simp;apply zAU;· (intro wx hw;have q1:=(fun (x:World) (_:Below w7.heap.size w7 x)=>HSL0.out x) wx hw;go_simp;(try go_ints);(try go_simp);(try (rw[if_pos (by omega)]));(try go_simp);(first | done | rfl))
     refine hK _ ?_;clear hK K)
   iterate 2
    (refine Mix.wpUp_cons rfl (fun K hK=>?_);go_simp;apply zAU;· (intro wx hw;go_simp;(try go_ints);(try go_simp);(try (rw[if_pos (by omega)]));(try go_simp);(first | done | rfl))
     refine hK _ ?_;clear hK K)
   refine Mix.wpUp_nil ?_;intro inv;have hR7:=StH.rep st7 HH.out HRn.out;refine Mix.good_one (i:=2) (f:=0) (by kernel_rfl) inv (fun w8 hb8=>?_);clear inv;refine zAT rfl rfl 78 #[.pointer none,.int .i64 0] (by go_simp) ?_;refine(zDW KK bits .nil none 0 w7 w8 hR7 hb8).mono ?_;rintro e w9 ⟨q,rfl,hrq,hb9⟩;refine⟨_,rfl,fun wx=>Below w7.heap.size w7 wx,(fun _ _ h hb=>h.trans (hb.mono h.size)),hb8.trans (hb9.mono hb8.size),fun _ h=>h,fun inv=>?_⟩;clear hb8 hb9 hR7;refine⟨by kernel_rfl,fun w10 hb10=>?_⟩;have HA0:=Lib.hid (HI0.out q (.slice (some ⟨gb,go,none⟩) s s) N w10 (hrq.call hb10) (HG0.out.call hb10) (HQ0.out.call hb10) (StH.has (StH.call' st7 hb10) HH.out) (StH.hasK (StH.call' st7 hb10) HH.out HKK.out) (by omega) (by omega));have st10:=StH.call' st7 hb10;clear st7 hrq;simp only[List.drop_succ_cons,List.drop_zero,Act.put,List.getElem_toArray,List.getElem_cons_succ,List.getElem_cons_zero,List.setIfInBounds_toArray,List.set_cons_succ,List.set_cons_zero]
   go_wp2_with (first
    |(go_at_call 156;refine HA0.out.mono ?_;rintro e w11 ⟨p0,n1,rfl,hr0,hg11,hh11,hn1,hn1'⟩))
   have hk11:=(DataKept.call hb10).trans (DataKept.turn (StH.has st10 HH.out) hg11);have st11:=StH.sum st10 HH.out hg11 hh11;clear st10 hg11 hh11 hb10 HA0;have hR11:=StH.rep st11 HH.out HRn.out;refine Mix.wp_region_mix 8 (fun wx=>Below w11.heap.size w11 wx) zBL (by kernel_rfl) (Below.refl _ _).drew ?_;intro F inv;refine Mix.good_batch (f:=1) F (fun _ _ h hb=>h.trans (hb.mono h.size)) [0,1,3,4,5,6,7] _ _ inv (by kernel_rfl) ?_;clear inv
   iterate 4
    (refine Mix.wpUp_cons rfl (fun K hK=>?_);go_simp;apply zAU;· (intro wx hw;go_simp;(try go_ints);(try go_simp);(try (rw[if_pos (by omega)]));(try go_simp);(first | done | rfl))
     refine hK _ ?_;clear hK K)
   iterate 1
    (refine Mix.wpUp_cons rfl (fun K hK=>?_);go_simp;apply zAU;· (intro wx hw;have q1:=(fun (x:World) (_:Below w11.heap.size w11 x)=>HSL1.out x) wx hw;go_simp;(try go_ints);(try go_simp);(try (rw[if_pos (by omega)]));(try go_simp);(first | done | rfl))
     refine hK _ ?_;clear hK K)
   iterate 2
    (refine Mix.wpUp_cons rfl (fun K hK=>?_);go_simp;apply zAU;· (intro wx hw;go_simp;(try go_ints);(try go_simp);(try (rw[if_pos (by omega)]));(try go_simp);(first | done | rfl))
     refine hK _ ?_;clear hK K)
   refine Mix.wpUp_nil ?_;intro inv;refine Mix.good_one (i:=2) (f:=0) (by kernel_rfl) inv (fun w12 hb12=>?_);clear inv;refine zAT rfl rfl 78 #[.pointer none,.int .i64 1] (by go_simp) ?_;refine(zDW KK bits .nil none 1 w11 w12 hR11 hb12).mono ?_;rintro e w13 ⟨q',rfl,hrq,hb13⟩;refine⟨_,rfl,fun wx=>Below w11.heap.size w11 wx,(fun _ _ h hb=>h.trans (hb.mono h.size)),hb12.trans (hb13.mono hb12.size),fun _ h=>h,fun inv=>?_⟩;clear hb12 hb13 hR11;refine⟨by kernel_rfl,fun w14 hb14=>?_⟩;have hk14:=hk11.trans (DataKept.call hb14);have HA1:=Lib.hid (HI1.out q' l7 n1 w14 (hrq.call hb14) (HG1.out.data hk14) (RdG.data chc_data HQ1.out hk14) (StH.has (StH.call' st11 hb14) HH.out) (StH.hasK (StH.call' st11 hb14) HH.out HKK.out) (by omega) (by omega));have st14:=StH.call' st11 hb14;have Hr0:=Lib.hid (hr0.call hb14);clear st11 hrq hr0 hb14 hk11 hk14;simp only[List.drop_succ_cons,List.drop_zero,Act.put,List.getElem_toArray,List.getElem_cons_succ,List.getElem_cons_zero,List.setIfInBounds_toArray,List.set_cons_succ,List.set_cons_zero]
   go_wp2_with (first
    |(go_at_call 156;refine HA1.out.mono ?_;rintro e w15 ⟨p1,n2,rfl,hr1,hg15,hh15,hn2,hn2'⟩;have st15:=StH.sum st14 HH.out hg15 hh15;have Hr0':=Lib.hid (Hr0.out.turn (StH.has st14 HH.out) hg15);have Hr1:=Lib.hid hr1;clear st14 hg15 hh15 hr1)
    |(go_at_call 168;refine(HGn.out p0 n2 p1 _ _ _ (StH.has st15 HH.out) (by constructor<;>omega) (StH.hasK st15 HH.out HKK.out) Hr0'.out Hr1.out).mono ?_;rintro e w16 ⟨p2,n3,rfl,hr2,hg16,hh16,hn3,hn3'⟩))
   rw[←appE_part,←appE_part,join_bld hnn] at hr2;have st16:=StH.sum st15 HH.out hg16 hh16;exact HP.out _ _ _ hr2 (StH.grown st16) (StH.has st16 HH.out) (by omega) (by omega)
end
section
set_option maxHeartbeats 4000000
open Go Go.RowKit
attribute [local irreducible] Inv.wpInv Mix.wpUp
def zEZ(m d:Nat):Int:=2*zEI m d
theorem costB_nonneg(m d:Nat)(hd:d≤256):0≤zEZ m d:=by
 have:=zCK m d hd;unfold zEZ;omega
theorem costB_split1(m0 m1 d:Nat)(h:1≤m0+m1)(hd:d<256):3+zEZ m0 (d+1)+zEZ m1 (d+1)≤zEZ (m0+m1) d:=by
 have h1:=costA_split1 m0 m1 d h;have h2:=zCK m0 (d+1) hd;have h3:=zCK m1 (d+1) hd;unfold zEZ;omega
set_option linter.unusedSimpArgs false in
set_option maxRecDepth 20000 in
theorem ApInner_step(KK:List Int)(hb cb:Nat)(bits:Int)(hB:0≤bits∧bits≤256)(n d:Nat)(hdn:d+n=256)(es:List Ent)(he2:2≤es.length)(kc:List CV)(pl:Option Addr)(l:Value)(N:Int)(w:World)(hok:ApOK es kc d)(hg:GoodCV w kc)(hn:kc.length≤999)(hl:RdCh w l (kc.map (·.1)))(hh:HasH hb cb bits N w)(hK:HasK KK w)(hN:0≤N)(hNc:N+zEZ kc.length d≤3999999999999980000)
  (ht:RepT KK bits w pl (zCI (n+1) es d))
  (IH:d<256→∀(es':List Ent)(cvs':List CV) (pl':Option Addr) (l':Value) (N':Int) (w':World),ApOK es' cvs' (d+1)→GoodCV w' cvs'→cvs'.length≤999→RdCh w' l' (cvs'.map (·.1))→HasH hb cb bits N' w'→HasK KK w'→0≤N'→N'+zEZ cvs'.length (d+1)≤3999999999999980000→RepT KK bits w' pl' (zCI n es' (d+1)) →
   Calls Tryz.prog 156 #[.pointer (some ⟨hb,0,none⟩),.pointer pl',l',.int .i64 ((d:Nat)+1)] w' (TPost KK bits hb cb N' (zEZ cvs'.length (d+1)) (zCI n (zGI es' cvs') (d+1)) w')) :
  Calls Tryz.prog 156 #[.pointer (some ⟨hb,0,none⟩),.pointer pl,l,.int .i64 (d:Nat)] w (TPost KK bits hb cb N (zEZ kc.length d) (zCI (n+1) (zGI es kc) d) w):=by
 have HP:Hid (∀(w':World)(p:Option Addr) (N':Int),RepT KK bits w' p (zCI (n+1) (zGI es kc) d)→w.grownBy w' (some cb)→HasH hb cb bits N' w'→N≤N'→N'≤N+zEZ kc.length d→TPost KK bits hb cb N (zEZ kc.length d) (zCI (n+1) (zGI es kc) d) w (.returned (.pointer p)) w'):=fun w' p N' h1 h2 h3 h4 h5=>⟨p,N',rfl,h1,h2,h3,h4,h5⟩
 generalize TPost KK bits hb cb N (zEZ kc.length d) (zCI (n+1) (zGI es kc) d) w=R at *;have HL:=Lib.hid hl;obtain⟨la,c3,rfl,_⟩:=hl.form;rw[List.length_map] at *;have HH:=Lib.hid hh;have HKK:=Lib.hid hK;have hni:((kc.length:Nat):Int)≤999:=by omega
 have HOK:=Lib.hid hok;have HGw:=Lib.hid hg;have HRn:=Lib.hid ht;have hz:=costB_nonneg kc.length d (by omega)
 by_cases h0:kc=[]
 ·subst h0
  clear hl hh hK hg hok ht IH;go_enter Tryz.func156,Tryz.ntmps156;go_wp2;exact HP.out _ pl N (by rw[appE_none];exact HRn.out) (zHE (Below.refl _ _)) HH.out (Int.le_refl _) (by omega)
 ·have hpos:1≤kc.length:=List.length_pos_iff.2 h0
  have hl0:(((kc.length:Nat):Int)==0)=false:=by
   have h5:¬((kc.length:Nat):Int)=0:=by omega
   simpa using h5
  have hd256:d<256:=by
   rcases Nat.lt_or_ge d 256 with h | h
   ·exact h
   ·have:=hok.dist.few h
    omega
  have hnn:1≤n:=by omega
  have HKc:Hid (KeysCh (kc.map (·.1))):=fun c hc=>by obtain⟨p,hp,rfl⟩:=List.mem_map.1 hc;exact hok.key p hp
  have hT2:=zGP (n:=n) (d:=d) he2;have HKd:Hid (Calls Tryz.prog 39 #[.pointer pl] w fun e w'=>e=.returned (.int .i64 2)∧w'=w):=by
   have h:=zBW KK bits _ pl w ht;rw[hT2] at h;exact h
  obtain⟨hc3,gb,go,rfl⟩:=hl.spot hpos;have hpl:∃nb,pl=some ⟨nb,0,none⟩:=by
   rw[hT2] at ht;obtain⟨nb,_,_,_,h,_⟩:=ht;exact⟨nb,h⟩
  obtain⟨pb,rfl⟩:=hpl;have HIx:Hid (∀b:Nat,b<2→∀(q:Option Addr)(l':Value) (N':Int) (w':World),RepT KK bits w' q (zCH (zCI (n+1) es d) (b:Nat))→GoodCV w' (zFJ kc d b)→RdCh w' l' ((zFJ kc d b).map (·.1))→HasH hb cb bits N' w'→HasK KK w'→0≤N'→N'+zEZ (zFJ kc d b).length (d+1)≤3999999999999980000 →
    Calls Tryz.prog 156 #[.pointer (some ⟨hb,0,none⟩),.pointer q,l',.int .i64 ((d:Nat)+1)] w' (TPost KK bits hb cb N' (zEZ (zFJ kc d b).length (d+1)) (zCI n (zGI (zBY es d b) (zFJ kc d b)) (d+1)) w')):=fun b hb2 q l' N' w' h1 h2 h3 h4 h5 h6 h7=>by
   have e:zCH (zCI (n+1) es d) (b:Nat)=zCI n (zBY es d b) (d+1):=by
    rw[hT2];rcases(by omega:b=0∨b=1) with rfl | rfl
    ·exact zJF _ _
    ·exact childT_one _ _
   rw[e] at h1;exact IH hd256 (zBY es d b) (zFJ kc d b) q l' N' w' (hok.part b) h2 (Nat.le_trans (List.length_filter_le _ _) (by omega)) h3 h4 h5 h6 h7 h1
  clear hl hh hK hg hok ht IH hT2;generalize zCI (n+1) es d=T at *;have hb5:Below w.heap.size w w:=Below.refl _ _;go_enter Tryz.func156,Tryz.ntmps156;go_upto_region 12 with (first
   |(go_at_call 39;refine HKd.out.mono ?_;rintro e w6 ⟨rfl,hw6⟩;obtain rfl:=hw6.symm;clear hw6))
  clear HKd;have hdi:((d:Nat):Int)<256:=by omega
  have hkl:(kc.map (fun p:CV=>p.1.k)).length=kc.length:=List.length_map _;have hkm2:(kc.map (·.1)).map (fun c:Chg=>c.k)=kc.map (fun p:CV=>p.1.k):=by rw[List.map_map];rfl
  have HKs:=Lib.hid (Keys2_calls (kc.map (·.1)) (.slice (some ⟨gb,go,none⟩) kc.length c3) w HKc.out (by rw[List.length_map];omega) HL.out);rw[hkm2] at HKs;have HSp:Hid (∀v4 wx,RdKs wx v4 (kc.map (fun p:CV=>p.1.k))→Calls Tryz.prog 184 #[v4,.int .i64 (d:Nat)] wx fun e w'=>∃s:Nat,e=.returned (.int .i64 (s:Nat))∧s≤kc.length∧(∀x (hx:x<kc.length),x<s→zBO kc[x].1.k d=0)∧(∀x (hx:x<kc.length),s≤x→zBO kc[x].1.k d=1)∧Below wx.heap.size wx w'):=fun v4 wx h =>
   (Split_calls (kc.map (fun p:CV=>p.1.k)) v4 d hd256 wx (fun k hk=>by obtain⟨p,hp,rfl⟩:=List.mem_map.1 hk;exact HOK.out.key p hp) (by rw[hkl];omega) h HOK.out.mono).mono fun e w' ⟨s,h1,h2,h3,h4,h5⟩ =>
    ⟨s,h1,by rw[hkl] at h2;exact h2,fun x hx hxs=>by have:=h3 x (by rw[hkl];exact hx) hxs;rwa [List.getElem_map] at this,fun x hx hxs=>by have:=h4 x (by rw[hkl];exact hx) hxs;rwa [List.getElem_map] at this,h5⟩
  have HSl:=Lib.hid (fun s (hs:s≤kc.length)=>RdCh.cut HL.out s hs);have HGn:=Lib.hid (fun (p:Option Addr) (n:Int) (q:Option Addr) (l r:Tr) (wx:World) h1 h2 h3 h4 h5=>zIV KK l r p q hb cb bits n wx h1 hB h2 h3 h4 h5);clear hkm2
  go_wp2_with (first
   |(go_at_call 178;refine HKs.out.mono ?_;rintro e w6 ⟨v6,rfl,hr6,hb6⟩;have HR6:=Lib.hid hr6;clear hr6)
   |(go_at_call 184;refine(HSp.out _ _ HR6.out).mono ?_;rintro e w7 ⟨s,rfl,hs,h0,h1,hb7⟩))
  have hb57:Below w.heap.size w w7:=hb6.trans (hb7.mono hb6.size);obtain⟨hc0,hc1⟩:=split_parts kc d s h0 h1;have st7:StH w cb N [] w7:=StH.call' (StH.init HH.out (St.init w)) (hb5.trans (hb57.mono hb5.size));obtain⟨hL0,hL1⟩:=HSl.out s hs;rw[←hc0] at hL0;rw[←hc1] at hL1;have e0:(zFJ kc d 0).length=s:=by rw[hc0,List.length_take,Nat.min_eq_left hs]
  have e1:(zFJ kc d 1).length=kc.length - s:=by rw[hc1,List.length_drop]
  have HI0:=Lib.hid (HIx.out 0 (by decide));have HI1:=Lib.hid (HIx.out 1 (by decide));have HC0:=Lib.hid e0;have HC1:=Lib.hid e1;have hcs:3+zEZ s (d+1)+zEZ (kc.length - s) (d+1)≤zEZ kc.length d:=(by have:=costB_split1 s (kc.length - s) d (by omega) hd256;rwa [Nat.add_sub_cancel' hs] at this)
  have hz0:=costB_nonneg s (d+1) (by omega);have hz1:=costB_nonneg (kc.length - s) (d+1) (by omega);have HQ0:=Lib.hid (hL0.call hb57);have HQ1:=Lib.hid (hL1.call hb57);have HSL0:=Lib.hid (fun wx=>run_slice_cutN (P:=Tryz.prog) (sz:=34) zDE zCD (some ⟨gb,go,none⟩) kc.length c3 .i64 s (by omega) (fun x hx=>by cases hx;rfl) wx);have HSL1:=Lib.hid (fun wx=>zHU (P:=Tryz.prog) (sz:=34) zDE zCD (some ⟨gb,go,none⟩) kc.length c3 .i64 s hs wx);have hG7:=HGw.out.data ((DataKept.call hb5).trans (DataKept.call hb57));have HG0:=Lib.hid (hG7.sub (cvs':=zFJ kc d 0) (fun p hp=>(List.mem_filter.1 hp).1));have HG1:=Lib.hid (hG7.sub (cvs':=zFJ kc d 1) (fun p hp=>(List.mem_filter.1 hp).1));rw[HC0.out] at HI0;rw[HC1.out] at HI1;clear HIx HSl HKs HSp HR6 hb6 hb7 h0 h1 hc0 hc1 hL0 hL1 e0 e1 hG7 hb57;generalize (if c3=s then some (⟨gb,go,none⟩:Addr) else (some (⟨gb,go,none⟩:Addr)).map fun x=>x.add (s*34))=a7 at *;generalize (Value.slice a7 (kc.length - s) (c3 - s))=l7 at *;refine Mix.wp_region_mix 9 (fun wx=>Below w7.heap.size w7 wx) zBL (by kernel_rfl) (Below.refl _ _).drew ?_;intro F inv
  refine Mix.good_batch (f:=1) F (fun _ _ h hb=>h.trans (hb.mono h.size)) [0,1,3,4,5,6,7,8] _ _ inv (by kernel_rfl) ?_;clear inv
  iterate 5
   (refine Mix.wpUp_cons rfl (fun K hK=>?_);go_simp;apply zAU;· (intro wx hw;go_simp;(try go_ints);(try go_simp);(try (rw[if_pos (by omega)]));(try go_simp);(first | done | rfl))
    refine hK _ ?_;clear hK K)
  iterate 1
   (refine Mix.wpUp_cons rfl (fun K hK=>?_);go_simp;apply zAU;· (intro wx hw;have q1:=(fun (x:World) (_:Below w7.heap.size w7 x)=>HSL0.out x) wx hw;go_simp;(try go_ints);(try go_simp);(try (rw[if_pos (by omega)]));(try go_simp);(first | done | rfl))
    refine hK _ ?_;clear hK K)
  iterate 2
   (refine Mix.wpUp_cons rfl (fun K hK=>?_);go_simp;apply zAU;· (intro wx hw;go_simp;(try go_ints);(try go_simp);(try (rw[if_pos (by omega)]));(try go_simp);(first | done | rfl))
    refine hK _ ?_;clear hK K)
  refine Mix.wpUp_nil ?_;intro inv;have hR7:=StH.rep st7 HH.out HRn.out;refine Mix.good_one (i:=2) (f:=0) (by kernel_rfl) inv (fun w8 hb8=>?_);clear inv;refine zAT rfl rfl 78 #[.pointer (some ⟨pb,0,none⟩),.int .i64 0] (by go_simp) ?_;refine(zDW KK bits T (some ⟨pb,0,none⟩) 0 w7 w8 hR7 hb8).mono ?_;rintro e w9 ⟨q,rfl,hrq,hb9⟩;refine⟨_,rfl,fun wx=>Below w7.heap.size w7 wx,(fun _ _ h hb=>h.trans (hb.mono h.size)),hb8.trans (hb9.mono hb8.size),fun _ h=>h,fun inv=>?_⟩;clear hb8 hb9 hR7;refine⟨by kernel_rfl,fun w10 hb10=>?_⟩;have HA0:=Lib.hid (HI0.out q (.slice (some ⟨gb,go,none⟩) s s) N w10 (hrq.call hb10) (HG0.out.call hb10) (HQ0.out.call hb10) (StH.has (StH.call' st7 hb10) HH.out) (StH.hasK (StH.call' st7 hb10) HH.out HKK.out) (by omega) (by omega));have st10:=StH.call' st7 hb10;clear st7 hrq;simp only[List.drop_succ_cons,List.drop_zero,Act.put,List.getElem_toArray,List.getElem_cons_succ,List.getElem_cons_zero,List.setIfInBounds_toArray,List.set_cons_succ,List.set_cons_zero]
  go_wp2_with (first
   |(go_at_call 156;refine HA0.out.mono ?_;rintro e w11 ⟨p0,n1,rfl,hr0,hg11,hh11,hn1,hn1'⟩))
  have hk11:=(DataKept.call hb10).trans (DataKept.turn (StH.has st10 HH.out) hg11);have st11:=StH.sum st10 HH.out hg11 hh11;clear st10 hg11 hh11 hb10 HA0;have hR11:=StH.rep st11 HH.out HRn.out;refine Mix.wp_region_mix 8 (fun wx=>Below w11.heap.size w11 wx) zBL (by kernel_rfl) (Below.refl _ _).drew ?_;intro F inv;refine Mix.good_batch (f:=1) F (fun _ _ h hb=>h.trans (hb.mono h.size)) [0,1,3,4,5,6,7] _ _ inv (by kernel_rfl) ?_;clear inv
  iterate 4
   (refine Mix.wpUp_cons rfl (fun K hK=>?_);go_simp;apply zAU;· (intro wx hw;go_simp;(try go_ints);(try go_simp);(try (rw[if_pos (by omega)]));(try go_simp);(first | done | rfl))
    refine hK _ ?_;clear hK K)
  iterate 1
   (refine Mix.wpUp_cons rfl (fun K hK=>?_);go_simp;apply zAU;· (intro wx hw;have q1:=(fun (x:World) (_:Below w11.heap.size w11 x)=>HSL1.out x) wx hw;go_simp;(try go_ints);(try go_simp);(try (rw[if_pos (by omega)]));(try go_simp);(first | done | rfl))
    refine hK _ ?_;clear hK K)
  iterate 2
   (refine Mix.wpUp_cons rfl (fun K hK=>?_);go_simp;apply zAU;· (intro wx hw;go_simp;(try go_ints);(try go_simp);(try (rw[if_pos (by omega)]));(try go_simp);(first | done | rfl))
    refine hK _ ?_;clear hK K)
  refine Mix.wpUp_nil ?_;intro inv;refine Mix.good_one (i:=2) (f:=0) (by kernel_rfl) inv (fun w12 hb12=>?_);clear inv;refine zAT rfl rfl 78 #[.pointer (some ⟨pb,0,none⟩),.int .i64 1] (by go_simp) ?_;refine(zDW KK bits T (some ⟨pb,0,none⟩) 1 w11 w12 hR11 hb12).mono ?_;rintro e w13 ⟨q',rfl,hrq,hb13⟩;refine⟨_,rfl,fun wx=>Below w11.heap.size w11 wx,(fun _ _ h hb=>h.trans (hb.mono h.size)),hb12.trans (hb13.mono hb12.size),fun _ h=>h,fun inv=>?_⟩;clear hb12 hb13 hR11;refine⟨by kernel_rfl,fun w14 hb14=>?_⟩;have hk14:=hk11.trans (DataKept.call hb14);have HA1:=Lib.hid (HI1.out q' l7 n1 w14 (hrq.call hb14) (HG1.out.data hk14) (RdG.data chc_data HQ1.out hk14) (StH.has (StH.call' st11 hb14) HH.out) (StH.hasK (StH.call' st11 hb14) HH.out HKK.out) (by omega) (by omega));have st14:=StH.call' st11 hb14;have Hr0:=Lib.hid (hr0.call hb14);clear st11 hrq hr0 hb14 hk11 hk14;simp only[List.drop_succ_cons,List.drop_zero,Act.put,List.getElem_toArray,List.getElem_cons_succ,List.getElem_cons_zero,List.setIfInBounds_toArray,List.set_cons_succ,List.set_cons_zero]
  go_wp2_with (first
   |(go_at_call 156;refine HA1.out.mono ?_;rintro e w15 ⟨p1,n2,rfl,hr1,hg15,hh15,hn2,hn2'⟩;have st15:=StH.sum st14 HH.out hg15 hh15;have Hr0':=Lib.hid (Hr0.out.turn (StH.has st14 HH.out) hg15);have Hr1:=Lib.hid hr1;clear st14 hg15 hh15 hr1)
   |(go_at_call 168;refine(HGn.out p0 n2 p1 _ _ _ (StH.has st15 HH.out) (by constructor<;>omega) (StH.hasK st15 HH.out HKK.out) Hr0'.out Hr1.out).mono ?_;rintro e w16 ⟨p2,n3,rfl,hr2,hg16,hh16,hn3,hn3'⟩))
  rw[←appE_part,←appE_part,join_bld hnn] at hr2;have st16:=StH.sum st15 HH.out hg16 hh16;exact HP.out _ _ _ hr2 (StH.grown st16) (StH.has st16 HH.out) (by omega) (by omega)
theorem Ap_calls(KK:List Int)(hb cb:Nat)(bits:Int)(hB:0≤bits∧bits≤256):∀(n d:Nat)(es:List Ent) (cvs:List CV) (pl:Option Addr) (l:Value) (N:Int) (w:World),d+n=256→ApOK es cvs d→GoodCV w cvs→cvs.length≤999→RdCh w l (cvs.map (·.1))→HasH hb cb bits N w→HasK KK w→0≤N→N+zEZ cvs.length d≤3999999999999980000→RepT KK bits w pl (zCI (n+1) es d) →
  Calls Tryz.prog 156 #[.pointer (some ⟨hb,0,none⟩),.pointer pl,l,.int .i64 (d:Nat)] w (TPost KK bits hb cb N (zEZ cvs.length d) (zCI (n+1) (zGI es cvs) d) w):=by
 intro n
 induction n with
 |zero =>
  intro d es cvs pl l N w hd h1 h2 h3 h4 h5 h6 h7 h8 h9
  match es,h1,h9 with
  |[],h1,h9 =>
   obtain rfl:pl=none:=h9;have hz:=zCK cvs.length d (by omega);exact(ApNil_calls KK hb cb bits hB 0 d cvs l N w hd h1 h2 (by omega) h4 h5 h6 h7 (by unfold zEZ at h8;omega)).mono fun e w' ⟨p,n',a1,a2,a3,a4,a5,a6⟩=>⟨p,n',a1,a2,a3,a4,a5,by unfold zEZ;omega⟩
  |[e],h1,h9 =>
   rw[zGQ (by omega)] at h9;exact ApLeaf_calls KK hb cb bits hB 0 d hd e.1 e.2 pl cvs l N w h1 h2 h3 h4 h5 h6 h7 h8 h9
  |e::f::r,h1,h9 =>
   have:=h1.dist.few (by omega);simp at this
 |succ n ih =>
  intro d es cvs pl l N w hd h1 h2 h3 h4 h5 h6 h7 h8 h9
  match es,h1,h9 with
  |[],h1,h9 =>
   obtain rfl:pl=none:=h9;have hz:=zCK cvs.length d (by omega);exact(ApNil_calls KK hb cb bits hB (n+1) d cvs l N w hd h1 h2 (by omega) h4 h5 h6 h7 (by unfold zEZ at h8;omega)).mono fun e w' ⟨p,n',a1,a2,a3,a4,a5,a6⟩=>⟨p,n',a1,a2,a3,a4,a5,by unfold zEZ;omega⟩
  |[e],h1,h9 =>
   rw[zGQ (by omega)] at h9;exact ApLeaf_calls KK hb cb bits hB (n+1) d hd e.1 e.2 pl cvs l N w h1 h2 h3 h4 h5 h6 h7 h8 h9
  |e::f::r,h1,h9 =>
   refine ApInner_step KK hb cb bits hB (n+1) d hd (e::f::r) (by simp) cvs pl l N w h1 h2 h3 h4 h5 h6 h7 h8 h9 (fun _ es' cvs' pl' l' N' w' g1 g2 g3 g4 g5 g6 g7 g8 g9=>?_);have h:=ih (d+1) es' cvs' pl' l' N' w' (by omega) g1 g2 g3 g4 g5 g6 g7 g8 g9;have e:((d+1:Nat):Int)=(d:Int)+1:=by omega
   rw[e] at h;exact h
end
section
open Go Go.RowKit
attribute [local irreducible] Inv.wpInv Mix.wpUp zCI
theorem BCheck_calls(cs:List Chg)(v:Value)(w:World)(hk:KeysCh cs)(hasc:AscCh cs)(hn:cs.length≤100000)(hv:RdCh w v cs) :
  Calls Tryz.prog 155 #[v] w fun e w'=>e=.returned (.int .i64 0)∧Below w.heap.size w w':=by
 have HK1:=Lib.hid (Keys1_calls cs v w hk hn hv);have HK2:=Lib.hid (fun wx v' h=>KCheck_calls (cs.map (·.k)) v' wx (fun k hk'=>by obtain⟨c,hc,rfl⟩:=List.mem_map.1 hk';exact hk c hc) (by rw[List.length_map];exact hn) (fun i h=>by
  have h2:i+1<cs.length:=by simpa using h
  have:=List.pairwise_iff_getElem.1 hasc i (i+1) (by omega) h2 (by omega)
  simpa using this) h)
 obtain⟨a,c,rfl,_⟩:=hv.form;clear hk hasc hn hv;go_enter Tryz.func155,Tryz.ntmps155
 go_wp2_with (first
  |(go_at_call 178;refine HK1.out.mono ?_;rintro e w1 ⟨v1,rfl,hr1,hb1⟩;have HR1:=Lib.hid hr1;clear hr1)
  |(go_at_call 177;refine(HK2.out _ _ HR1.out).mono ?_;rintro e w2 ⟨rfl,hb2⟩))
 go_ret;exact⟨rfl,hb1.trans (hb2.mono hb1.size)⟩
def BAPost(KK:List Int)(bits:Int)(hb cb:Nat)(n c:Int)(t:Tr)(w:World)(e:Ending)(w':World):Prop :=
 ∃p n',e=.returned (.tuple #[.pointer p,.int .i64 0])∧RepT KK bits w' p t∧w.grownBy w' (some cb)∧HasH hb cb bits n' w'∧n≤n'∧n'≤n+c
theorem BApply_calls(KK:List Int)(hb cb:Nat)(bits:Int)(hB:0≤bits∧bits≤256)(es:List Ent)(cvs:List CV)(pl:Option Addr)(l:Value)(N:Int)(w:World)(hok:ApOK es cvs 0)(hg:GoodCV w cvs)(hn:cvs.length≤999)(hl:RdCh w l (cvs.map (·.1)))(hh:HasH hb cb bits N w)(hK:HasK KK w)(hN:0≤N)(hNc:N+zEZ cvs.length 0≤3999999999999980000)(ht:RepT KK bits w pl (zCI 257 es 0)) :
  Calls Tryz.prog 120 #[.pointer (some ⟨hb,0,none⟩),.pointer pl,l] w (BAPost KK bits hb cb N (zEZ cvs.length 0) (zCI 257 (zGI es cvs) 0) w):=by
 have HC:=Lib.hid (BCheck_calls (cvs.map (·.1)) l w (fun c hc=>by obtain⟨p,hp,rfl⟩:=List.mem_map.1 hc;exact hok.key p hp) hok.asc (by rw[List.length_map];omega) hl);have HA:=Lib.hid (fun wx (h:Below w.heap.size w wx)=>Ap_calls KK hb cb bits hB 256 0 es cvs pl l N wx rfl hok (hg.call h) hn (hl.call h) (hh.call h) (hK.call h) hN hNc (ht.call h));have HPo:Hid (∀(w1 w':World)(p:Option Addr) (n':Int),Below w.heap.size w w1→RepT KK bits w' p (zCI 257 (zGI es cvs) 0)→w1.grownBy w' (some cb)→HasH hb cb bits n' w'→N≤n'→n'≤N+zEZ cvs.length 0→BAPost KK bits hb cb N (zEZ cvs.length 0) (zCI 257 (zGI es cvs) 0) w (.returned (.tuple #[.pointer p,.int .i64 0])) w'):=fun w1 w' p n' h0 h1 h2 h3 h4 h5=>⟨p,n',rfl,h1,(zHE h0).trans h2,h3,h4,h5⟩
 obtain⟨la,lc,rfl,_⟩:=hl.form;rw[List.length_map] at *;clear hok hg hl hh hK ht;generalize BAPost KK bits hb cb N (zEZ cvs.length 0) (zCI 257 (zGI es cvs) 0) w=R at *;go_enter Tryz.func120,Tryz.ntmps120
 go_wp2_with (first
  |(go_at_call 155;refine HC.out.mono ?_;rintro e w1 ⟨rfl,hb1⟩)
  |(go_at_call 156;refine(HA.out _ hb1).mono ?_;rintro e w2 ⟨p,n',rfl,hr,hg,hh,h1,h2⟩))
 exact HPo.out _ _ _ _ hb1 hr hg hh h1 h2
end
section
open Go Go.RowKit
theorem appE_perm{es:List Ent}{a b:List CV}(h:a.Perm b):(zGI es a).Perm (zGI es b):=by
 unfold zGI;have e1:(es.filter fun e=>!a.any fun p=>decide (p.1.k=e.1))=es.filter fun e=>!b.any fun p=>decide (p.1.k=e.1):=by
  refine List.filter_congr fun e _=>?_
  congr 1
  rw[Bool.eq_iff_iff,List.any_eq_true,List.any_eq_true];exact⟨fun ⟨x,hx,hk⟩=>⟨x,h.mem_iff.1 hx,hk⟩,fun ⟨x,hx,hk⟩=>⟨x,h.mem_iff.2 hx,hk⟩⟩
 rw[e1];exact List.Perm.append_left _ ((h.filter _).map _)
theorem apply_ent(kb:Upd→List Nat)(va:Value→List Nat)(ch:Upd→CV)(hch:∀u,(ch u).1.k=kb u∧(ch u).1.del=u.del)(hv:∀u,u.del=false→(ch u).2=va (.slice u.va u.vn u.vc))(us:List Upd)(m:List (List Nat×Value))(cvs:List CV)(hp:us.Pairwise fun x y=>kb x≠kb y)(hc:cvs.Perm (us.map ch)) :
  (zGI (zFH va m) cvs).Perm (zFH va (zGG kb m us)):=by
 refine(appE_perm hc).trans (List.Perm.trans ?_ (applyE_ent kb va us m hp).symm);unfold zGI upKept;have e1:∀e:Ent,((us.map ch).any fun p=>decide (p.1.k=e.1))=us.any fun u=>decide (kb u=e.1):=fun e=>by
  rw[List.any_map]
  congr 1
  funext u
  simp[(hch u).1]
 simp only[e1];refine List.Perm.append_left _ ?_;rw[List.filter_map,List.map_map];have e2:us.filter ((fun p:CV=>!p.1.del)∘ch)=us.filter fun u=>!u.del:=List.filter_congr fun u _=>by show (!(ch u).1.del)=_;rw[(hch u).2]
 rw[e2];have e3:(us.filter fun u=>!u.del).map ((fun p:CV=>(p.1.k,p.2))∘ch)=(us.filter fun u=>!u.del).map fun u=>(kb u,va (.slice u.va u.vn u.vc)):=List.map_congr_left fun u hu=>by
  have hd:u.del=false:=by simpa using (List.mem_filter.1 hu).2
  show ((ch u).1.k,(ch u).2)=_
  rw[(hch u).1,hv u hd]
 rw[e3]
end
end Go.Proofs.YtlcngapphloafaaGreatDoor
