/- Parts of the proof that are used by the claim: Ver6, Ver7, WOps, Wrong, Top1, Top2, Runs. No condition is added here. -/
import Derived.Test.YtlcngapphloafaaGreatDoorPk22
import Derived.Test.YtlcngapphloafaaGreatDoorPk28
import Derived.Test.YtlcngapphloafaaGreatDoorPk2
import Derived.Test.YtlcngapphloafaaGreatDoorPk7
import Derived.Test.YtlcngapphloafaaGreatDoorPk16
namespace Go.Proofs.YtlcngapphloafaaGreatDoor
section
set_option maxHeartbeats 4000000
open Go Go.RowKit
attribute [local irreducible] Inv.wpInv Mix.wpUp
section
variable {KK:List Int} {ra ka:Option Addr} {rc kc:Nat} {vs bs:Value} {rr kk lv lb:List Nat} {hb cb:Nat} {bits c:Int} {w:World}
variable (V:VGiv KK ra ka rc kc vs bs rr kk lv lb hb cb bits c w) (p:Bool) (g Kb:Nat) (hne:Kb≠cb)
include V hne
theorem ans4(wr:World)(h:VI ra ka rc kc vs bs rr kk lb hb cb c w p g Kb 4 wr):Calls Tryz.prog 99 #[.pointer (some ⟨Kb,0,none⟩)] wr (VAns ra ka rc kc vs bs rr kk lb hb cb c w p g Kb (GoodV KK bits p rr kk lv lb) 4):=by
 obtain⟨c',pc,st,h1,h2,h3,h4,h5,h6⟩:=h;have hk32:=h5 (by omega);have hr32:=h4 (by omega);rcases h6 (by omega) with ⟨_,hok,s,rfl,hrd⟩ | ⟨h7,_⟩
 ·have h3':c'≤c:=by unfold upTo at h3;simp at h3;omega
  have hks:=StH.rd st V.hh V.hk;have hrow:=st.at (i:=1) rfl;rw[hk32] at hks hrow;have hcw:=(StH.has st V.hh).c;have hSup:=supports_calls KK _ bs s p (kdOf lb) (dpOf lb) (lfOf lb) (bmOf lb) kk lv ka kc vs (lfOf_len hok) (lfOf_lt V.bb) (bmOf_key hok V.bb).len ⟨hk32,V.kb⟩ V.vb V.vl Kb hb cb bits c' wr (StH.has st V.hh) V.hB (by have:=V.hc;omega) (StH.hasK st V.hh V.hK) hks (StH.rd st V.hh V.hv) hne hrow;refine(Step5_of Kb wr (supF (kdOf lb) (dpOf lb) (lfOf lb) kk (dgV KK bits lv p) p) (fun w'=>∃c'',c'≤c''∧c''≤c'+1∧wr.grownBy w' (some cb)∧HasH hb cb bits c'' w') (hSup.mono ?_)).mono ?_
  ·rintro e w' ⟨c'',rfl,ha,hb',hg,hh'⟩
   exact⟨rfl,c'',ha,hb',hg,hh'⟩
  ·rintro e w' ⟨rfl,c'',ha,hb',hg,hh'⟩
   have st':=StH.sum st V.hh hg hh';refine⟨_,c'',rfl,?_,by omega,by omega,St.few st' (by simp) (by simp),fun h0=>⟨c'',_,st',h1,by omega,by simp[upTo];omega,fun _=>hr32,fun _=>hk32,fun _=>.inl ⟨rfl,hok,s,rfl,hrd.turn hcw hg⟩⟩,fun hG=>if_pos hG.2.2.2.2.1⟩
   split<;>simp[Known]
 ·omega
theorem ans5(wr:World)(h:VI ra ka rc kc vs bs rr kk lb hb cb c w p g Kb 5 wr):Calls Tryz.prog 101 #[.pointer (some ⟨Kb,0,none⟩)] wr (VAns ra ka rc kc vs bs rr kk lb hb cb c w p g Kb (GoodV KK bits p rr kk lv lb) 5):=by
 obtain⟨c',pc,st,h1,h2,h3,h4,h5,h6⟩:=h;have hk32:=h5 (by omega);have hr32:=h4 (by omega);rcases h6 (by omega) with ⟨_,hok,s,rfl,hrd⟩ | ⟨h7,_⟩
 ·have h3':c'≤c+1:=by unfold upTo at h3;simpa using h3
  have hks:=StH.rd st V.hh V.hk;have hrs:=StH.rd st V.hh V.hr;have hrow:=st.at (i:=1) rfl;rw[hk32] at hks;rw[hr32] at hrs;rw[hk32,hr32] at hrow;have hcw:=(StH.has st V.hh).c;obtain⟨av,cv,rfl⟩:=hrd.open;have hck:=hok.2.2.2.2.2;have hdp:dpOf lb≤256:=by have:=(check_ok hck).2.1;omega
  have hLe:=leads_calls KK bs p (kdOf lb) (dpOf lb) (lfOf lb) (bmOf lb) (zFP lb) kk rr ra ka av rc kc _ cv vs (lfOf_len hok) (lfOf_lt V.bb) (bmOf_key hok V.bb) ⟨hk32,V.kb⟩ hr32 (restOf_lt V.bb) hck Kb hb cb bits c' wr (StH.has st V.hh) V.hB (by have:=V.hc;omega) (StH.hasK st V.hh V.hK) hks hrs hrd hne hrow;refine(Step6_of Kb wr (decide (belF KK bits (endF (kdOf lb) (lfOf lb)) kk (expF (zBE KK bits [3]) (dpOf lb) (setB (bmOf lb)) (zFP lb)) (dpOf lb) (dpOf lb)=rr)) (fun w'=>wr.grownBy w' (some cb)∧HasH hb cb bits (c'+2+(dpOf lb:Nat)) w') (hLe.mono ?_)).mono ?_
  ·rintro e w' ⟨rfl,hg,hh'⟩
   exact⟨rfl,hg,hh'⟩
  ·rintro e w' ⟨rfl,hg,hh'⟩
   have st':=StH.sum st V.hh hg hh';refine⟨_,_,rfl,?_,by omega,by omega,St.few st' (by simp) (by simp),fun h0=>⟨_,_,st',h1,by omega,by simp[upTo];omega,fun _=>hr32,fun _=>hk32,fun _=>.inl ⟨rfl,hok,_,rfl,hrd.turn hcw hg⟩⟩,fun hG=>if_pos (decide_eq_true hG.2.2.2.2.2)⟩
   split<;>simp[Known]
 ·omega
end
def zproof:Array Value:=zAB 0 0 (List.replicate 64 0) zAH (.slice none 0 0)
theorem builtCheck(h ra ba:Option Addr)(rn rc bn bc:Nat)(k v:Value)(p:Bool):Tryz.prog.built 131 [(0,.pointer h),(1,.slice ra rn rc),(2,.agg #[k,v,.bool p]),(3,.slice ba bn bc)]=some (ckR (.pointer h) (.slice ra rn rc) k v p (.slice ba bn bc) zproof):=by kernel_rfl
theorem aggClaim:∃d,Tryz.prog.underlying 24=some d∧zGJ d=true:=by
 have h:(Tryz.prog.underlying 24).map zGJ=some true:=by kernel_rfl
 cases hq:Tryz.prog.underlying 24 with
 |none=>rw[hq] at h;cases h
 |some d=>rw[hq] at h;exact⟨d,rfl,by simpa using h⟩
theorem sizeClaim:(Tryz.prog.info? 24).map (·.size)=some 3:=by kernel_rfl
theorem aggStep:∃d,Tryz.prog.underlying 136=some d∧zGJ d=true:=by
 have h:(Tryz.prog.underlying 136).map zGJ=some true:=by kernel_rfl
 cases hq:Tryz.prog.underlying 136 with
 |none=>rw[hq] at h;cases h
 |some d=>rw[hq] at h;exact⟨d,rfl,by simpa using h⟩
section
variable {KK:List Int} {ra ka va ba:Option Addr} {rc kc vc bc:Nat} {rr kk lv lb:List Nat} {hb cb:Nat} {bits c:Int} {w:World}
def VPost(G:Prop)(rr kk:List Nat)(hb cb:Nat)(bits c:Int)(w:World)(e:Ending)(w':World):Prop :=
 ∃x c',Known x∧c≤c'∧c'≤c+259∧w.grownBy w' (some cb)∧HasH hb cb bits c' w'∧(G→x=0) ∧
  ((x=0∧e=.returned .nilIface∧rr.length=32∧kk.length=32)∨(x≠0∧∃b op n,e=.returned (.iface 208 (.pointer (some ⟨b,0,none⟩)))∧w.heap.size≤b∧w'.heap[b]?=some (.cells #[.string op,.int .i64 n,.iface 31 (.int .i64 x)] 210 (0,0))))
set_option maxRecDepth 20000 in
theorem Verify_calls(V:VGiv KK ra ka rc kc (.slice va lv.length vc) (.slice ba lb.length bc) rr kk lv lb hb cb bits c w)(p:Bool) :
  Calls Tryz.prog 27 #[.pointer (some ⟨hb,0,none⟩),.slice ra rr.length rc,.agg #[.slice ka kk.length kc,.slice va lv.length vc,.bool p],.slice ba lb.length bc] w (VPost (GoodV KK bits p rr kk lv lb) rr kk hb cb bits c w):=by
 have hA0:=Lib.hid (fun g Kb wr h=>ans0 V p g Kb wr h);have hA1:=Lib.hid (fun g Kb wr h=>ans1 V p g Kb wr h);have hA2:=Lib.hid (fun g Kb wr h=>ans2 V p g Kb wr h);have hA3:=Lib.hid (fun g Kb wr h=>ans3 V p g Kb wr h);have hA4:=Lib.hid (fun g Kb hne wr h=>ans4 V p g Kb hne wr h);have hA5:=Lib.hid (fun g Kb hne wr h=>ans5 V p g Kb hne wr h);have HH:=Lib.hid V.hh;have HVI:=Lib.hid (fun g Kb j wr (w2:World) (h:VI ra ka rc kc (.slice va lv.length vc) (.slice ba lb.length bc) rr kk lb hb cb c w p g Kb j wr) (hb':Below wr.heap.size wr w2)=>VI.call h hb');have HP:Hid (∀x c' w6 w' b op n,Known x→c≤c'→c'≤c+259→StH w cb c' [] w6→Below w6.heap.size w6 w'→x≠0→(GoodV KK bits p rr kk lv lb→x=0)→w6.heap.size≤b→w'.heap[b]?=some (.cells #[.string op,.int .i64 n,.iface 31 (.int .i64 x)] 210 (0,0))→VPost (GoodV KK bits p rr kk lv lb) rr kk hb cb bits c w (.returned (.iface 208 (.pointer (some ⟨b,0,none⟩)))) w'):=fun x c' w6 w' b op n h1 h2 h3 h4 hbl h5 hG hle h6=>⟨x,c',h1,h2,h3,StH.grown (St.call h4 hbl),StH.has (St.call h4 hbl) V.hh,hG,.inr ⟨h5,b,op,n,rfl,Nat.le_trans h4.size hle,h6⟩⟩
 have HP0:Hid (∀w' g Kb,VI ra ka rc kc (.slice va lv.length vc) (.slice ba lb.length bc) rr kk lb hb cb c w p g Kb 6 w'→VPost (GoodV KK bits p rr kk lv lb) rr kk hb cb bits c w (.returned .nilIface) w'):=fun w' g Kb ⟨c',pc,st,h1,h2,h3,h4,h5,h6⟩=>⟨0,c',.inl rfl,h2,by simpa[upTo] using h3,StH.grown st,StH.has st V.hh,fun _=>rfl,.inl ⟨rfl,rfl,h4 (by omega),h5 (by omega)⟩⟩
 have HBC:=Lib.hid (builtCheck (some ⟨hb,0,none⟩) ra ba rr.length rc lb.length bc (.slice ka kk.length kc) (.slice va lv.length vc) p);have hzs:Hid (zproof.size=99):=zAO zCZ rfl;have hcl:cb<w.heap.size:=zAG V.hh.c;generalize VPost (GoodV KK bits p rr kk lv lb) rr kk hb cb bits c w=R at *;have HI0:Hid (∀g Kb wr,StH w cb c [(g,stepFs,136),(Kb,ckR (.pointer (some ⟨hb,0,none⟩)) (.slice ra rr.length rc) (.slice ka kk.length kc) (.slice va lv.length vc) p (.slice ba lb.length bc) zproof,131)] wr→VI ra ka rc kc (.slice va lv.length vc) (.slice ba lb.length bc) rr kk lb hb cb c w p g Kb 0 wr):=fun g Kb wr h=>⟨c,zproof,h,hzs.out,Int.le_refl _,by simp[upTo],fun h=>by omega,fun h=>by omega,fun h=>by omega⟩
 have HG:Hid (∀g Kb j wr,VI ra ka rc kc (.slice va lv.length vc) (.slice ba lb.length bc) rr kk lb hb cb c w p g Kb j wr→wr.heap[g]?=some (.cells stepFs 136 (0,0))):=fun g Kb j wr ⟨c',pc,st,_⟩=>st.at (i:=0) rfl
 clear V;generalize hIE:VI ra ka rc kc (.slice va lv.length vc) (.slice ba lb.length bc) rr kk lb hb cb c w p=I at *;have HIE:=Lib.hid hIE;clear hIE;have st:=St.init w;have st0:=StH.init HH.out st;clear st;go_enter Tryz.func27,Tryz.ntmps27;go_upto_region 2 with (first
  |(refine zAM rfl 131 _ rfl [(0,.pointer (some ⟨hb,0,none⟩)),(1,.slice ra rr.length rc),(2,.agg #[.slice ka kk.length kc,.slice va lv.length vc,.bool p]),(3,.slice ba lb.length bc)] ?_ _ HBC.out ?_;(·first | (simp[Act.eval];done) | rfl)))
 have st1:=(st0.new #[.slice ka kk.length kc,.slice va lv.length vc,.bool p] 24).new (ckR (.pointer (some ⟨hb,0,none⟩)) (.slice ra rr.length rc) (.slice ka kk.length kc) (.slice va lv.length vc) p (.slice ba lb.length bc) zproof) 131;rw[World.size_alloc] at st1;generalize (w.alloc (.cells #[.slice ka kk.length kc,.slice va lv.length vc,.bool p] 24)).alloc (.cells (ckR (.pointer (some ⟨hb,0,none⟩)) (.slice ra rr.length rc) (.slice ka kk.length kc) (.slice va lv.length vc) p (.slice ba lb.length bc) zproof) 131)=w2 at *;have hne:w.heap.size+1≠cb:=by omega
 generalize w.heap.size+1=Kb at *;have st2:StH w cb c [(Kb,ckR (.pointer (some ⟨hb,0,none⟩)) (.slice ra rr.length rc) (.slice ka kk.length kc) (.slice va lv.length vc) p (.slice ba lb.length bc) zproof,131)] w2:=St.few st1 (by simp) (by simp);clear st0 st1
 go_wp2_with (first
  |(go_at_call 57;refine(steps_calls _).mono ?_;rintro e w3 ⟨g,rfl,stw⟩;have st3:=St.join st2 stw;have hI:=HI0.out g Kb _ st3;clear st2 stw st3))
 go_loopw [21] (fun i wr=>∃j:Int,0≤j∧j≤6∧i=.int .i64 j∧I g Kb j.toNat wr) (fun i _=>(6 - intOf i).toNat)
 case atStart=>exact⟨0,by omega,by omega,rfl,hI⟩
 case round =>
  obtain⟨j,j0,j6,rfl,hI'⟩:=hrel;clear hI;have hg:=HG.out g Kb _ wr hI';have stR:=St.init wr
  by_cases e6:j=6
  ·subst e6
   go_wp2;exact HP0.out _ _ _ hI'
  by_cases e0:j=0
  ·subst e0
   clear hA1 hA2 hA3 hA4 hA5 HBC hzs HI0 HG HP0 HH hcl;have hg0:wr.cell? ⟨g,0,none⟩=some (.func (.func 94) #[] #[]):=by simp[World.cell?,hg,stepFs]
   go_upto_region 6 with (first
    |(refine zAP rfl 136 _ rfl g 0 1 rfl aggStep _ _ _ hg zGM (by decide) (#[.func (.func 94) #[] #[]]) rfl ?_)
    |(refine zCR stR rfl 136 rfl _ zeroStep ?_;intro b11 w4 st4 _ _;clear stR)
    |(refine zAZ st4 rfl 136 _ _ rfl 0 b11 0 rfl (.agg #[.func (.func 94) #[] #[]]) rfl _ _ rfl zGM (Nat.le_refl 1) (by simp[Value.cells,Value.oneCell']) (#[.func (.func 94) #[] #[]]) rfl _ rfl ?_;intro w5 st5 _;clear st4;have hc11:w5.cell? ⟨b11,0,none⟩=some (.func (.func 94) #[] #[]):=st5.cell (i:=0) rfl 0)
    |(go_at_call 94;refine(hA0.out g Kb _ (HVI.out g Kb 0 wr _ hI' st5.below)).mono ?_;rintro e w6 ⟨x,c',rfl,hk,h1,h2,hst,hn,hgd⟩;have Hgd:=Lib.hid hgd;clear st5 hc11;have Hk:=Lib.hid hk;have H1:=Lib.hid h1;have H2:=Lib.hid h2;have Hn:=Lib.hid hn;clear hk h1 h2 hn hgd))
   by_cases hx:x=0
   ·subst hx
    go_wp2;go_roundw
    case rel=>exact⟨1,by omega,by omega,rfl,HIE.out▸Hn.out rfl⟩
    case measure=>simp[intOf]
   ·go_wp2_with (first
     |(go_at_call 58;refine(zJJ _ _ _ _ _).mono ?_;rintro e w7 ⟨bF,rfl,hle,hrow,hbel⟩))
    exact HP.out x c' w6 w7 bF _ _ Hk.out H1.out H2.out hst hbel hx Hgd.out hle hrow
  by_cases e1:j=1
  ·subst e1
   clear hA0 hA2 hA3 hA4 hA5 HBC hzs HI0 HG HP0 HH hcl;have hg0:wr.cell? ⟨g,1,none⟩=some (.func (.func 96) #[] #[]):=by simp[World.cell?,hg,stepFs]
   go_upto_region 6 with (first
    |(refine zAP rfl 136 _ rfl g 1 1 rfl aggStep _ _ _ hg zGM (by decide) (#[.func (.func 96) #[] #[]]) rfl ?_)
    |(refine zCR stR rfl 136 rfl _ zeroStep ?_;intro b11 w4 st4 _ _;clear stR)
    |(refine zAZ st4 rfl 136 _ _ rfl 0 b11 0 rfl (.agg #[.func (.func 96) #[] #[]]) rfl _ _ rfl zGM (Nat.le_refl 1) (by simp[Value.cells,Value.oneCell']) (#[.func (.func 96) #[] #[]]) rfl _ rfl ?_;intro w5 st5 _;clear st4;have hc11:w5.cell? ⟨b11,0,none⟩=some (.func (.func 96) #[] #[]):=st5.cell (i:=0) rfl 0)
    |(go_at_call 96;refine(hA1.out g Kb _ (HVI.out g Kb 1 wr _ hI' st5.below)).mono ?_;rintro e w6 ⟨x,c',rfl,hk,h1,h2,hst,hn,hgd⟩;have Hgd:=Lib.hid hgd;clear st5 hc11;have Hk:=Lib.hid hk;have H1:=Lib.hid h1;have H2:=Lib.hid h2;have Hn:=Lib.hid hn;clear hk h1 h2 hn hgd))
   by_cases hx:x=0
   ·subst hx
    go_wp2;go_roundw
    case rel=>exact⟨2,by omega,by omega,rfl,HIE.out▸Hn.out rfl⟩
    case measure=>simp[intOf]
   ·go_wp2_with (first
     |(go_at_call 58;refine(zJJ _ _ _ _ _).mono ?_;rintro e w7 ⟨bF,rfl,hle,hrow,hbel⟩))
    exact HP.out x c' w6 w7 bF _ _ Hk.out H1.out H2.out hst hbel hx Hgd.out hle hrow
  by_cases e2:j=2
  ·subst e2
   clear hA0 hA1 hA3 hA4 hA5 HBC hzs HI0 HG HP0 HH hcl;have hg0:wr.cell? ⟨g,2,none⟩=some (.func (.func 97) #[] #[]):=by simp[World.cell?,hg,stepFs]
   go_upto_region 6 with (first
    |(refine zAP rfl 136 _ rfl g 2 1 rfl aggStep _ _ _ hg zGM (by decide) (#[.func (.func 97) #[] #[]]) rfl ?_)
    |(refine zCR stR rfl 136 rfl _ zeroStep ?_;intro b11 w4 st4 _ _;clear stR)
    |(refine zAZ st4 rfl 136 _ _ rfl 0 b11 0 rfl (.agg #[.func (.func 97) #[] #[]]) rfl _ _ rfl zGM (Nat.le_refl 1) (by simp[Value.cells,Value.oneCell']) (#[.func (.func 97) #[] #[]]) rfl _ rfl ?_;intro w5 st5 _;clear st4;have hc11:w5.cell? ⟨b11,0,none⟩=some (.func (.func 97) #[] #[]):=st5.cell (i:=0) rfl 0)
    |(go_at_call 97;refine(hA2.out g Kb _ (HVI.out g Kb 2 wr _ hI' st5.below)).mono ?_;rintro e w6 ⟨x,c',rfl,hk,h1,h2,hst,hn,hgd⟩;have Hgd:=Lib.hid hgd;clear st5 hc11;have Hk:=Lib.hid hk;have H1:=Lib.hid h1;have H2:=Lib.hid h2;have Hn:=Lib.hid hn;clear hk h1 h2 hn hgd))
   by_cases hx:x=0
   ·subst hx
    go_wp2;go_roundw
    case rel=>exact⟨3,by omega,by omega,rfl,HIE.out▸Hn.out rfl⟩
    case measure=>simp[intOf]
   ·go_wp2_with (first
     |(go_at_call 58;refine(zJJ _ _ _ _ _).mono ?_;rintro e w7 ⟨bF,rfl,hle,hrow,hbel⟩))
    exact HP.out x c' w6 w7 bF _ _ Hk.out H1.out H2.out hst hbel hx Hgd.out hle hrow
  by_cases e3:j=3
  ·subst e3
   clear hA0 hA1 hA2 hA4 hA5 HBC hzs HI0 HG HP0 HH hcl;have hg0:wr.cell? ⟨g,3,none⟩=some (.func (.func 98) #[] #[]):=by simp[World.cell?,hg,stepFs]
   go_upto_region 6 with (first
    |(refine zAP rfl 136 _ rfl g 3 1 rfl aggStep _ _ _ hg zGM (by decide) (#[.func (.func 98) #[] #[]]) rfl ?_)
    |(refine zCR stR rfl 136 rfl _ zeroStep ?_;intro b11 w4 st4 _ _;clear stR)
    |(refine zAZ st4 rfl 136 _ _ rfl 0 b11 0 rfl (.agg #[.func (.func 98) #[] #[]]) rfl _ _ rfl zGM (Nat.le_refl 1) (by simp[Value.cells,Value.oneCell']) (#[.func (.func 98) #[] #[]]) rfl _ rfl ?_;intro w5 st5 _;clear st4;have hc11:w5.cell? ⟨b11,0,none⟩=some (.func (.func 98) #[] #[]):=st5.cell (i:=0) rfl 0)
    |(go_at_call 98;refine(hA3.out g Kb _ (HVI.out g Kb 3 wr _ hI' st5.below)).mono ?_;rintro e w6 ⟨x,c',rfl,hk,h1,h2,hst,hn,hgd⟩;have Hgd:=Lib.hid hgd;clear st5 hc11;have Hk:=Lib.hid hk;have H1:=Lib.hid h1;have H2:=Lib.hid h2;have Hn:=Lib.hid hn;clear hk h1 h2 hn hgd))
   by_cases hx:x=0
   ·subst hx
    go_wp2;go_roundw
    case rel=>exact⟨4,by omega,by omega,rfl,HIE.out▸Hn.out rfl⟩
    case measure=>simp[intOf]
   ·go_wp2_with (first
     |(go_at_call 58;refine(zJJ _ _ _ _ _).mono ?_;rintro e w7 ⟨bF,rfl,hle,hrow,hbel⟩))
    exact HP.out x c' w6 w7 bF _ _ Hk.out H1.out H2.out hst hbel hx Hgd.out hle hrow
  by_cases e4:j=4
  ·subst e4
   clear hA0 hA1 hA2 hA3 hA5 HBC hzs HI0 HG HP0 HH hcl;have hg0:wr.cell? ⟨g,4,none⟩=some (.func (.func 99) #[] #[]):=by simp[World.cell?,hg,stepFs]
   go_upto_region 6 with (first
    |(refine zAP rfl 136 _ rfl g 4 1 rfl aggStep _ _ _ hg zGM (by decide) (#[.func (.func 99) #[] #[]]) rfl ?_)
    |(refine zCR stR rfl 136 rfl _ zeroStep ?_;intro b11 w4 st4 _ _;clear stR)
    |(refine zAZ st4 rfl 136 _ _ rfl 0 b11 0 rfl (.agg #[.func (.func 99) #[] #[]]) rfl _ _ rfl zGM (Nat.le_refl 1) (by simp[Value.cells,Value.oneCell']) (#[.func (.func 99) #[] #[]]) rfl _ rfl ?_;intro w5 st5 _;clear st4;have hc11:w5.cell? ⟨b11,0,none⟩=some (.func (.func 99) #[] #[]):=st5.cell (i:=0) rfl 0)
    |(go_at_call 99;refine(hA4.out g Kb hne _ (HVI.out g Kb 4 wr _ hI' st5.below)).mono ?_;rintro e w6 ⟨x,c',rfl,hk,h1,h2,hst,hn,hgd⟩;have Hgd:=Lib.hid hgd;clear st5 hc11;have Hk:=Lib.hid hk;have H1:=Lib.hid h1;have H2:=Lib.hid h2;have Hn:=Lib.hid hn;clear hk h1 h2 hn hgd))
   by_cases hx:x=0
   ·subst hx
    go_wp2;go_roundw
    case rel=>exact⟨5,by omega,by omega,rfl,HIE.out▸Hn.out rfl⟩
    case measure=>simp[intOf]
   ·go_wp2_with (first
     |(go_at_call 58;refine(zJJ _ _ _ _ _).mono ?_;rintro e w7 ⟨bF,rfl,hle,hrow,hbel⟩))
    exact HP.out x c' w6 w7 bF _ _ Hk.out H1.out H2.out hst hbel hx Hgd.out hle hrow
  by_cases e5:j=5
  ·subst e5
   clear hA0 hA1 hA2 hA3 hA4 HBC hzs HI0 HG HP0 HH hcl;have hg0:wr.cell? ⟨g,5,none⟩=some (.func (.func 101) #[] #[]):=by simp[World.cell?,hg,stepFs]
   go_upto_region 6 with (first
    |(refine zAP rfl 136 _ rfl g 5 1 rfl aggStep _ _ _ hg zGM (by decide) (#[.func (.func 101) #[] #[]]) rfl ?_)
    |(refine zCR stR rfl 136 rfl _ zeroStep ?_;intro b11 w4 st4 _ _;clear stR)
    |(refine zAZ st4 rfl 136 _ _ rfl 0 b11 0 rfl (.agg #[.func (.func 101) #[] #[]]) rfl _ _ rfl zGM (Nat.le_refl 1) (by simp[Value.cells,Value.oneCell']) (#[.func (.func 101) #[] #[]]) rfl _ rfl ?_;intro w5 st5 _;clear st4;have hc11:w5.cell? ⟨b11,0,none⟩=some (.func (.func 101) #[] #[]):=st5.cell (i:=0) rfl 0)
    |(go_at_call 101;refine(hA5.out g Kb hne _ (HVI.out g Kb 5 wr _ hI' st5.below)).mono ?_;rintro e w6 ⟨x,c',rfl,hk,h1,h2,hst,hn,hgd⟩;have Hgd:=Lib.hid hgd;clear st5 hc11;have Hk:=Lib.hid hk;have H1:=Lib.hid h1;have H2:=Lib.hid h2;have Hn:=Lib.hid hn;clear hk h1 h2 hn hgd))
   by_cases hx:x=0
   ·subst hx
    go_wp2;go_roundw
    case rel=>exact⟨6,by omega,by omega,rfl,HIE.out▸Hn.out rfl⟩
    case measure=>simp[intOf]
   ·go_wp2_with (first
     |(go_at_call 58;refine(zJJ _ _ _ _ _).mono ?_;rintro e w7 ⟨bF,rfl,hle,hrow,hbel⟩))
    exact HP.out x c' w6 w7 bF _ _ Hk.out H1.out H2.out hst hbel hx Hgd.out hle hrow
  omega
end
end
section
set_option maxHeartbeats 4000000
open Go Go.RowKit Go.Extern.Stop Go.Stop Go.Extern
attribute [local irreducible] Inv.wpInv Mix.wpUp
def GotET(w:World):Prop:=w.cell? ⟨0,0,none⟩=some (.iface 212 (.agg #[hnd 65]))
section
variable {KK:List Int} {ra ka:Option Addr} {rc kc:Nat} {vs bs:Value} {rr kk lv lb:List Nat} {hb cb:Nat} {bits c:Int} {w wx:World}
theorem VGiv.far(V:VGiv KK ra ka rc kc vs bs rr kk lv lb hb cb bits c w){L:List (Nat×Array Value×TypeId)}(st:StH w cb c L wx):VGiv KK ra ka rc kc vs bs rr kk lv lb hb cb bits c wx :=
 ⟨StH.has st V.hh,StH.hasK st V.hh V.hK,V.hB,V.hc,StH.rd st V.hh V.hr,StH.rd st V.hh V.hk,StH.rd st V.hh V.hv,⟨StH.rd st V.hh V.hbs.1,V.hbs.2⟩,V.kb,V.vb,V.bb,V.rl,V.kl,V.vl⟩
end
section
variable {KK:List Int} {ra ka va ba:Option Addr} {rc kc vc bc:Nat} {rr kk lv lb:List Nat} {hb cb:Nat} {bits c:Int} {w:World}
def CkPost(G:Prop)(rr kk:List Nat)(hb cb:Nat)(bits c:Int)(w:World)(e:Ending)(w':World):Prop :=
 ∃x c',e=.returned (.int .i64 x)∧Known x∧c≤c'∧c'≤c+259∧w.grownBy w' (some cb)∧HasH hb cb bits c' w'∧(x=0→rr.length=32∧kk.length=32)∧(G→x=0)
set_option maxRecDepth 20000 in
theorem VCheck_calls(V:VGiv KK ra ka rc kc (.slice va lv.length vc) (.slice ba lb.length bc) rr kk lv lb hb cb bits c w)(p:Bool)(hg:GotET w)(hcb:cb≠0) :
  Calls Tryz.prog 10 #[.pointer (some ⟨hb,0,none⟩),.slice ra rr.length rc,.agg #[.slice ka kk.length kc,.slice va lv.length vc,.bool p],.slice ba lb.length bc] w (CkPost (GoodV KK bits p rr kk lv lb) rr kk hb cb bits c w):=by
 have HVf:=Lib.hid (fun wx L (st:StH w cb c L wx)=>Verify_calls (V.far st) p);have HH:=Lib.hid V.hh;have HP:Hid (∀x c' w' L,Known x→c≤c'→c'≤c+259→StH w cb c' L w'→(x=0→rr.length=32∧kk.length=32)→(GoodV KK bits p rr kk lv lb→x=0)→CkPost (GoodV KK bits p rr kk lv lb) rr kk hb cb bits c w (.returned (.int .i64 x)) w'):=fun x c' w' L h1 h2 h3 h4 h5 h6=>⟨x,c',rfl,h1,h2,h3,StH.grown h4,StH.has h4 V.hh,h5,h6⟩
 have hcl:cb<w.heap.size:=zAG V.hh.c;have HAs:Hid (∀tb b op n c' x wx L,StH w cb c' ((tb,#[.int .i64 0],31)::(b,#[.string op,.int .i64 n,.iface 31 (.int .i64 x)],210)::L) wx →
   Calls Tryz.prog 28 #[.iface 208 (.pointer (some ⟨b,0,none⟩)),.iface 79 (.pointer (some ⟨tb,0,none⟩))] wx fun e w'=>e=.returned (.bool true)∧StH w cb c' ((tb,#[.int .i64 x],31)::(b,#[.string op,.int .i64 n,.iface 31 (.int .i64 x)],210)::L) w'):=by
  intro tb b op n c' x wx L st;have hsz:(w.setRow cb #[.int .i64 c']).heap.size=w.heap.size:=by simp
  have hg':(w.setRow cb #[.int .i64 c']).cell? ⟨0,0,none⟩=some (.iface 212 (.agg #[hnd 65])):=by
   refine(World.cell?_of_block (w:=w) ((zHX w cb _).block 0 (by omega) (fun e=>hcb (Option.some.inj e).symm))).trans hg
  have h:=AsE_of 208 (.pointer (some ⟨b,0,none⟩)) true tb (.int .i64 0) (.int .i64 x) wx (w.setRow cb #[.int .i64 c']) ((b,#[.string op,.int .i64 n,.iface 31 (.int .i64 x)],210)::L) hg' (by rw[hsz];exact st)
   (fun w1 vb st1=>as_code [(op,n)] _ x _ _ vb _ _ _ _ ⟨b,_,rfl,st1.at (i:=2) rfl,rfl⟩ st1)
  rw[hsz] at h;exact h
 clear V hg;generalize CkPost (GoodV KK bits p rr kk lv lb) rr kk hb cb bits c w=R at *;have st:=St.init w;have st0:=StH.init HH.out st;clear st;go_enter Tryz.func10,Tryz.ntmps10;have st1:=(st0.new #[.slice ka kk.length kc,.slice va lv.length vc,.bool p] 24).new #[.int .i64 0] 31;rw[World.size_alloc] at st1;go_upto_region 2 with (first | (fail "x"))
 generalize (w.alloc (.cells #[.slice ka kk.length kc,.slice va lv.length vc,.bool p] 24)).alloc (.cells #[.int .i64 0] 31)=w2 at *;generalize w.heap.size+1=tb at *;go_upto_region 3 with (first
  |(refine zAP rfl 24 _ rfl w.heap.size 0 3 rfl aggClaim _ _ _ (st1.at (i:=1) rfl) sizeClaim (Nat.le_refl 3) (#[.slice ka kk.length kc,.slice va lv.length vc,.bool p]) rfl ?_)
  |(go_at_call 27;refine(HVf.out _ _ st1).mono ?_;rintro e w3 ⟨x,c',hk,h1,h2,hg3,hh3,hgd,⟨rfl,rfl,h4,h5⟩ | ⟨hx,b,op,n,rfl,hle,hrow⟩⟩))
 ·have Hk:=Lib.hid hk
  clear hk hgd;have st3:=StH.sum st1 HH.out hg3 hh3;clear HAs HVf st1;have hct:=st3.cell (i:=0) rfl 0;go_wp2;exact HP.out 0 c' _ _ Hk.out h1 h2 st3 (fun _=>⟨h4,h5⟩) (fun _=>rfl)
 ·have Hk:=Lib.hid hk
  have Hgd:=Lib.hid hgd;clear hk hgd;have st3:=StH.sumNew st1 HH.out hg3 hh3 hle hrow;have hnb:b≠tb:=by
   have:=st3.nodup;simp at this;omega
  have st4:StH w cb c' [(tb,#[.int .i64 0],31),(b,#[.string op,.int .i64 n,.iface 31 (.int .i64 x)],210)] w3:=St.few st3 (by simp) (by simp;omega);clear HVf st1 st3 hrow hg3 hh3
  go_wp2_with (first
   |(go_at_call 28;refine(HAs.out tb b op n c' x _ _ st4).mono ?_;rintro e w5 ⟨rfl,st5⟩;have hct:=st5.cell (i:=0) rfl 0;clear st4))
  exact HP.out x c' _ _ Hk.out h1 h2 st5 (fun h=>absurd h hx) Hgd.out
end
end
section
set_option maxHeartbeats 4000000
open Go Go.RowKit Go.Extern.Stop Go.Stop Go.Extern
theorem GotET.call{w w':World}(h:GotET w)(hb:Below w.heap.size w w'):GotET w':=by
 unfold GotET at *;rw[hb.cell (block_lt_of_cell h)];exact h
set_option maxRecDepth 20000 in
theorem as_first(p:Addr)(B tb vb:Nat)(old:Value)(w w0:World)(L:List (Nat×Array Value×TypeId))
  (st:St B w0 ((vb,#[.pointer (some ⟨tb,0,none⟩)],270)::(tb,#[old],208)::L) w) :
  Calls Tryz.prog 62 #[.iface 208 (.pointer (some p)),.iface 270 (.pointer (some ⟨tb,0,none⟩)),.agg #[hnd 270,.pointer (some ⟨vb,0,none⟩),.int .u64 150],.iface 212 (.agg #[hnd 208])] w
   fun e w'=>e=.returned (.bool true)∧St B w0 ((tb,#[.pointer (some p)],208)::L) w':=by
 have hT:=@run_callFunc_extern Tryz.prog 103 _ Extern.ReflectliteType.typeOf Tryz.func103 (by kernel_rfl) (by kernel_rfl) (by kernel_rfl) (by kernel_rfl);have hAs:=@run_callFunc_extern Tryz.prog 250 _ zJI Tryz.func250 (by kernel_rfl) (by kernel_rfl) (by kernel_rfl) (by kernel_rfl);have hV:=@run_callFunc_extern Tryz.prog 59 _ (fun args=>ReflectliteValue.unpack (args.getD 0 (.tuple #[]))) Tryz.func59 (by kernel_rfl) (by kernel_rfl) (by kernel_rfl) (by kernel_rfl);have hEl:=@run_callFunc_extern Tryz.prog 104 _ (ReflectliteValue.method (ReflectliteValue.valueError "reflectlite.Value.Elem" 0) ReflectliteValue.elem) Tryz.func104 (by kernel_rfl) (by kernel_rfl) (by kernel_rfl) (by kernel_rfl);have hSet:=@run_callFunc_extern Tryz.prog 105 _ ReflectliteValue.set Tryz.func105 (by kernel_rfl) (by kernel_rfl) (by kernel_rfl) (by kernel_rfl);have tF:=typeOfF;have mA:=methAssign;have aF:=asgFF;have vF:=valElF;have st3:=st.new #[hnd 270,.pointer (some ⟨vb,0,none⟩),.int .u64 150] 141;have cv:(w.alloc (.cells #[hnd 270,.pointer (some ⟨vb,0,none⟩),.int .u64 150] 141)).cell? ⟨vb,0,none⟩=some (.pointer (some ⟨tb,0,none⟩)):=st3.cell (i:=1) rfl 0;have el:=elemVF ⟨vb,0,none⟩ ⟨tb,0,none⟩ _ cv
 have st4:=st3.new #[.pointer (some p)] 208;have se:=setF ⟨tb,0,none⟩ ⟨w.heap.size+1,0,none⟩ p old ((w.alloc (.cells #[hnd 270,.pointer (some ⟨vb,0,none⟩),.int .u64 150] 141)).alloc (.cells #[.pointer (some p)] 208)) (by simp) (st4.cell (i:=3) rfl 0) (st4.free (i:=3) rfl 0);go_enter Tryz.func62,Tryz.ntmps62;go_wp2;refine wp_loop_rounds 1 ?_;rw[rounds_succ];go_wp2;go_ret;exact⟨rfl,((st4.set (i:=3) rfl 0 (.pointer (some p)) rfl).drop).drop.drop⟩
theorem Code_code(l:List (ByteArray×Int))(v:Value)(c:Int)(w:World)(hg:GotET w)(h:IsErr w v l (.iface 31 (.int .i64 c))) :
  Calls Tryz.prog 115 #[v] w fun e w'=>e=.returned (.int .i64 c)∧Below w.heap.size w w':=by
 have st1:=(St.init w).new #[.int .i64 0] 31;obtain⟨t,u,rfl⟩:=h.iface;have H1:=Lib.hid (AsE_of t u true w.heap.size (.int .i64 0) (.int .i64 c) _ w [] hg st1 (fun w1 vb st=>as_code l _ c _ _ vb _ _ _ _ (h.call st.below) st));clear h hg;go_enter Tryz.func115,Tryz.ntmps115
 go_wp2_with (first | (go_at_call 28;refine(H1.out).mono ?_;rintro e wn ⟨rfl,st5⟩;have c0:=st5.cell (i:=0) rfl 0))
 go_ret;exact⟨rfl,st5.below⟩
theorem First_cons(op:ByteArray)(n:Int)(l:List (ByteArray×Int))(v core:Value)(w:World)(hg:GotET w)(h:IsErr w v ((op,n)::l) core) :
  Calls Tryz.prog 114 #[v] w fun e w'=>e=.returned (.tuple #[.string op,.int .i64 n,.bool true])∧Below w.heap.size w w':=by
 obtain⟨b,inner,rfl,hc,hi⟩:=h;clear hi;have st1:=(St.init w).new #[.pointer none] 208;have H1:=Lib.hid (AsF_of 208 (.pointer (some ⟨b,0,none⟩)) true w.heap.size (.pointer none) (.pointer (some ⟨b,0,none⟩)) _ w [] hg st1 (fun w1 vb st=>as_first _ _ _ vb _ _ _ _ st));clear hg;have h0:w.cell? ⟨b,0,none⟩=some (.string op):=by simp[World.cell?,hc]
 have h1:w.cell? ⟨b,1,none⟩=some (.int .i64 n):=by simp[World.cell?,hc]
 clear hc;go_enter Tryz.func114,Tryz.ntmps114
 go_wp2_with (first | (go_at_call 28;refine(H1.out).mono ?_;rintro e wn ⟨rfl,st5⟩;have c0:=st5.cell (i:=0) rfl 0;have g0:=h0;have g1:=h1;rw[←st5.below.cell (block_lt_of_cell h0)] at g0;rw[←st5.below.cell (block_lt_of_cell h1)] at g1) | go_region)
 go_ret3;exact⟨rfl,st5.drew.below⟩
theorem own_shapeC{w:World}{base n size:Nat}{e:TypeId}{v:Value}{xs:List Value}(h:w.ownsRow base e size v n xs):∃a c,v=.slice a n c:=by
 rcases h.2 with ⟨rfl,rfl⟩ | ⟨g,cap,cur,rfl,_⟩
 ·exact⟨none,0,rfl⟩
 ·exact⟨_,cap,rfl⟩
def opCells(l:List (ByteArray×Int)):List Value:=l.map fun s=>Value.string s.1
theorem opCells_app(l:List (ByteArray×Int))(s:ByteArray×Int):opCells (l++[s])=opCells l++[.string s.1]:=by simp[opCells]
theorem asFF(p:Value)(w:World):(Instr.typeAssert (.iface 208 p) 65 208 true).run Tryz.prog w=.ok (.tuple #[p,.bool true]) w:=by kernel_rfl
theorem asFE(p:Value)(w:World):(Instr.typeAssert (.iface 31 p) 65 208 true).run Tryz.prog w=.ok (.tuple #[.pointer none,.bool false]) w:=by kernel_rfl
theorem fillS(x:ByteArray):Instr.fill (fun i=>some (i*1,1)) ((Array.range (1*1)).map ((Value.string ⟨#[]⟩).cells[·%(Value.string ⟨#[]⟩).cells.size]!)) [(0,.string x)]=some #[.string x]:=by kernel_rfl
theorem Ops_calls(l:List (ByteArray×Int))(v:Value)(t:TypeId)(u:Value)(w:World)(ht:t≠208)
  (hno:∀w,(Instr.typeAssert (.iface t u) 65 208 true).run Tryz.prog w=.ok (.tuple #[.pointer none,.bool false]) w) (h:IsErr w v l (.iface t u)) (hl:l.length≤1000) :
  Calls Tryz.prog 116 #[v] w fun e w'=>∃a c,e=.returned (.slice a l.length c)∧Below w.heap.size w w':=by
 have hF:=asFF;have HL:=Lib.hid hl;have Hh:=Lib.hid h;clear h hl;have st:=St.init w;go_enter Tryz.func116,Tryz.ntmps116;go_wp2
 go_loopw [0,3] (fun err out wr=>∃d l',IsErr w err l' (.iface t u)∧St w.heap.size w [] wr∧wr.ownsRow w.heap.size 9 1 out d.length (opCells d)∧d++l'=l) (fun err _ _=>errLen (.iface t u) w err)
 case atStart=>exact⟨[],l,Hh.out,st,World.ownsRow_nil _ _ _ _,rfl⟩
 case round =>
  obtain⟨d,l',h,st3,hown,hdl⟩:=hrel;clear st
  cases l' with
  |nil =>
   obtain rfl:=h;have Hown:=Lib.hid hown;clear hown;go_wp2;go_ret;rw[List.append_nil] at hdl;subst hdl;obtain⟨a,c,rfl⟩:=own_shapeC Hown.out;exact⟨a,c,rfl,st3.below⟩
  |cons s l' =>
   obtain⟨b,inner,rfl,hc,hi⟩:=h;have h0:wr.cell? ⟨b,0,none⟩=some (.string s.1):=by rw[st3.below.cell (zAG hc)];simp[World.cell?,hc]
   have h2w:w.cell? ⟨b,2,none⟩=some inner:=by simp[World.cell?,hc]
   have m0:=errLen_eq ht (show IsErr w (.iface 208 (.pointer (some ⟨b,0,none⟩))) (s::l') (.iface t u) from ⟨b,_,rfl,hc,hi⟩);have m1:=errLen_eq ht hi;have Hm:Hid (errLen (.iface t u) w inner<errLen (.iface t u) w (.iface 208 (.pointer (some ⟨b,0,none⟩)))):=by
    unfold Hid;rw[m0,m1];exact Nat.lt_succ_self _
   have hdl':Hid ((d++[s])++l'=l):=by unfold Hid;rw[←hdl];simp
   have hd:d.length+1≤1000:=by have:=HL.out;rw[←hdl] at this;simp at this;omega
   have Hd:=Lib.hid hd;have Hi:=Lib.hid hi;have Hown:=Lib.hid hown;have Hdc:Hid (opCells (d++[s])=opCells d++[.string s.1]):=opCells_app d s;clear m0 m1 hc hi hown hdl hd HL;generalize s.1=S at *
   go_wp2_with (first
    |(refine zAR st3 rfl 230 1 _ rfl 9 Tryz.underlying230 (.string ⟨#[]⟩) 1 (by kernel_rfl) (by kernel_rfl) (by omega) (by omega) [(0,.string S)] ?_ _ (fillS S) ?_;· (simp[Act.eval];done)
      intro b4 w4 st4 hb4)
    |(refine zCL (base:=w.heap.size) st4.drop (by simp) (Nat.le_refl _) rfl _ _ 230 rfl 9 (.string ⟨#[]⟩) 1 16 Tryz.underlying230 (by kernel_rfl) (by kernel_rfl) (by kernel_rfl) rfl (by omega) _ d.length (opCells d) rfl (zAY Hown.out hb4) b4 1 1 #[.string S] 9 rfl rfl (st4.at (i:=0) rfl) (by intro q hq;simp at hq;subst hq;rfl) (by have:=Hd.out;unfold maxLen;omega) (by have:=Hd.out;omega) st4.size ?_
      intro v5 w5 st5 own5 _ hs5;have h25:=h2w;rw[←st5.below.cell (block_lt_of_cell h2w)] at h25))
   go_roundw
   case rel=>exact⟨d++[s],l',Hi.out,st5,by rw[Hdc.out,List.length_append];exact own5,hdl'.out⟩
   case measure=>exact Hm.out
end
section
set_option maxHeartbeats 2000000
open Go Go.RowKit
attribute [local irreducible] Inv.wpInv Mix.wpUp
theorem wrong_ok(op:ByteArray)(i:Int)(w:World):Calls Tryz.prog 67 #[.nilIface,.string op,.int .i64 i,.int .i64 0] w fun e w'=>e=.returned (.bool false)∧w'=w:=by
 go_enter Tryz.func67,Tryz.ntmps67;go_wp2;go_ret;exact⟨rfl,rfl⟩
theorem wrong_zero(t:TypeId)(u:Value)(op:ByteArray)(i:Int)(w:World):Calls Tryz.prog 67 #[.iface t u,.string op,.int .i64 i,.int .i64 0] w fun e w'=>e=.returned (.bool true)∧w'=w:=by
 go_enter Tryz.func67,Tryz.ntmps67;go_wp2;go_ret;exact⟨rfl,rfl⟩
def BoolPost(w:World)(e:Ending)(w':World):Prop:=∃b,e=.returned (.bool b)∧Below w.heap.size w w'
theorem wrong_err(op:ByteArray)(i i' c code:Int)(hne:code≠0)(v:Value)(w:World)(hg:GotET w)(h:IsErr w v [(op,i)] (.iface 31 (.int .i64 c))) :
  Calls Tryz.prog 67 #[v,.string op,.int .i64 i',.int .i64 code] w (BoolPost w):=by
 have HP:Hid (∀b w',Below w.heap.size w w'→BoolPost w (.returned (.bool b)) w'):=fun b w' hb=>⟨b,rfl,hb⟩
 generalize BoolPost w=R at *;have HF:=Lib.hid (First_cons op i [] v _ w hg h);have HC:=Lib.hid (fun wx (hb:Below w.heap.size w wx)=>Code_code [(op,i)] v c wx (hg.call hb) (h.call hb));have HO:=Lib.hid (fun wx (hb:Below w.heap.size w wx)=>Ops_calls [(op,i)] v 31 (.int .i64 c) wx (by decide) (asFE _) (h.call hb) (by simp));obtain⟨t,u,rfl⟩:=h.iface;clear hg h
 by_cases hc:c=code
 ·subst hc
  by_cases hi:i=i'
  ·subst hi
   go_enter Tryz.func67,Tryz.ntmps67
   go_wp2_with (first
    |(go_at_call 114;refine HF.out.mono ?_;rintro e w1 ⟨rfl,hb1⟩)
    |(go_at_call 115;refine(HC.out _ hb1).mono ?_;rintro e w2 ⟨rfl,hb2⟩;have hb12:=hb1.trans (hb2.mono hb1.size);clear hb2)
    |(go_at_call 116;refine(HO.out _ hb12).mono ?_;rintro e w3 ⟨a3,c3,rfl,hb3⟩;have hb13:=hb12.trans (hb3.mono hb12.size);clear hb3))
   exact HP.out _ _ hb13
  ·go_enter Tryz.func67,Tryz.ntmps67
   go_wp2_with (first
    |(go_at_call 114;refine HF.out.mono ?_;rintro e w1 ⟨rfl,hb1⟩)
    |(go_at_call 115;refine(HC.out _ hb1).mono ?_;rintro e w2 ⟨rfl,hb2⟩;have hb12:=hb1.trans (hb2.mono hb1.size);clear hb2)
    |(go_at_call 116;refine(HO.out _ hb12).mono ?_;rintro e w3 ⟨a3,c3,rfl,hb3⟩;have hb13:=hb12.trans (hb3.mono hb12.size);clear hb3))
   exact HP.out _ _ hb12
 ·go_enter Tryz.func67,Tryz.ntmps67
  go_wp2_with (first
   |(go_at_call 114;refine HF.out.mono ?_;rintro e w1 ⟨rfl,hb1⟩)
   |(go_at_call 115;refine(HC.out _ hb1).mono ?_;rintro e w2 ⟨rfl,hb2⟩;have hb12:=hb1.trans (hb2.mono hb1.size);clear hb2)
   |(go_at_call 116;refine(HO.out _ hb12).mono ?_;rintro e w3 ⟨a3,c3,rfl,hb3⟩;have hb13:=hb12.trans (hb3.mono hb12.size);clear hb3))
  exact HP.out _ _ hb12
end
section
set_option maxHeartbeats 1000000
open Go Go.RowKit
attribute [local irreducible] Inv.wpInv Mix.wpUp
theorem Right05_calls(b:Int)(w:World):Calls Tryz.prog 6 #[.int .i64 b] w fun e w'=>e=.returned (.bool (decide (0≤b∧b≤256)))∧w'=w:=by
 have Hr:Hid (∀x:Bool,x=decide (0≤b∧b≤256)→∀e,e=Ending.returned (.bool x)→e=.returned (.bool (decide (0≤b∧b≤256)))):=fun x hx e he=>hx▸he
 generalize hG:decide (0≤b∧b≤256)=G at *
 by_cases h0:0≤b
 ·by_cases h1:b≤256
  ·obtain rfl:G=true:=by rw[←hG];simp[h0,h1]
   clear hG Hr;go_enter Tryz.func6,Tryz.ntmps6;go_wp2;go_ret;exact⟨rfl,rfl⟩
  ·obtain rfl:G=false:=by rw[←hG];simp[h1]
   clear hG Hr;have h1':256<b:=by omega
   go_enter Tryz.func6,Tryz.ntmps6;go_wp2;go_ret;exact⟨rfl,rfl⟩
 ·obtain rfl:G=false:=by rw[←hG];simp[h0]
  clear hG Hr;have h0':b<0:=by omega
  go_enter Tryz.func6,Tryz.ntmps6;go_wp2;go_ret;exact⟨rfl,rfl⟩
theorem enc_dec(lf:List Nat)(hl:lf.length=64):kdOf (zGT++lf)=1∧dpOf (zGT++lf)=0∧bmOf (zGT++lf)=zAH∧lfOf (zGT++lf)=lf∧zFP (zGT++lf)=[]:=by
 have hk:kdOf (zGT++lf)=1:=by simp[kdOf,zGT]
 refine⟨hk,by simp[dpOf,zGT],?_,?_,?_⟩
 ·show List.take 32 (zAH++lf)=zAH
  exact List.take_left' rfl
 ·unfold lfOf
  rw[if_pos hk];have e:(zGT++lf).drop 36=lf:=List.drop_left' rfl;rw[e];exact List.take_of_length_le (by omega)
 ·unfold zFP
  rw[if_pos hk];exact List.drop_eq_nil_of_le (by simp[hl,zGT,zAH])
theorem enc_ok(lf:List Nat)(hl:lf.length=64):decOk (zGT++lf):=by
 obtain⟨h1,h2,h3,h4,h5⟩:=enc_dec lf hl;have hlen:(zGT++lf).length=100:=by simp[hl,zGT,zAH]
 refine⟨by omega,rfl,fun _=>by omega,by rw[h5];rfl,by rw[h5];simp,?_⟩;rw[h1,h2,h3,h4,h5];exact check_leaf lf
theorem good_example(KK:List Int)(k l:List Nat)(hk:k.length=32)(hl:l.length≤65535) :
  GoodV KK 256 true (zBE KK 256 (0::(k++zBE KK 256 (2::l)))) k l (zGT++(k++zBE KK 256 (2::l))):=by
 have hlf:(k++zBE KK 256 (2::l)).length=64:=by rw[List.length_append,hk,(zBG _ _ _).len]
 obtain⟨h1,h2,h3,h4,h5⟩:=enc_dec _ hlf;refine⟨(zBG _ _ _).len,hk,hl,enc_ok _ hlf,?_,?_⟩
 ·rw[h1,h2,h4]
  simp[supF,dgV]
 ·rw[h1,h2,h3,h4,h5]
  rfl
end
section
open Go Go.RowKit
attribute [local irreducible] Inv.wpInv Mix.wpUp
section
variable (ka va:Option Addr) (kn kc vn vc:Nat) (p:Bool) (w:World)
end
end
section
set_option maxHeartbeats 2000000
open Go Go.RowKit
attribute [local irreducible] Inv.wpInv Mix.wpUp
section
variable {P:Program} {ops:Array Oper} {rest:List Oper} {o:Oper} {a:Act} {w w0:World} {Q:Exit→Act→World→Prop} {B:Nat} {L:List (Nat×Array Value×TypeId)}
theorem wpList_makeW(st:St B w0 L w)(hgd:Region.wanted o (yielded ops a.tmps)=true)(t:TypeId)(l c:Operand)(ho:o.op=.makeSlice t l c)(e:TypeId)(z:Value)(size bytes:Nat)(ht:P.underlying t=some (.slice e))
  (hz:(P.info? e).bind (·.zero)=some z) (hsz:(P.info? e).map (·.size)=some size) (hby:(P.info? e).map (·.bytes)=some bytes) (kl kc:IntKind) (l' c':Int) (hl:a.eval l=.int kl l') (hc:a.eval c=.int kc c')
  (h0:0≤l') (hlc:l'≤c') (hb:(bytes:Int)*c'≤281474976710656) (h63:c'≤9223372036854775807)
  (h:∀b w1,St B w0 ((b,madeCells z.cells (c'.toNat*size),e)::L) w1→wpList P ops Q rest (a.put o.dst (.slice (some ⟨b,0,none⟩) l'.toNat c'.toNat)) w1):wpList P ops Q (o::rest) a w:=by
 refine zCP hgd fun K hK=>?_
 cases hq:P.info? e with
 |none=>simp[hq] at hz
 |some i =>
  have hi:i.zero=some z:=by simpa[hq] using hz
  have hs:i.size=size:=by simpa[hq] using hsz
  have hbb:i.bytes=bytes:=by simpa[hq] using hby
  subst hs;subst hbb;unfold Oper.wp execOp;simp only[ho,hl,hc,Sem.run_bind,run_make w t e i z ht hq hi kl kc l' c' h0 hlc hb h63,Sem.run_pure,Result.andThen_ok,Oper.upon];exact hK _ _ (h _ _ (st.new _ e))
theorem mxOp_make(st:St B w0 L w){j:Nat}{K:Act→World→Prop}(hi0:ops[j]?=some o)(hw:Region.wanted o (yielded ops a.tmps)=true)(t:TypeId)(l c:Operand)(ho:o.op=.makeSlice t l c)(e:TypeId)(z:Value)(size bytes:Nat)(ht:P.underlying t=some (.slice e))
  (hz:(P.info? e).bind (·.zero)=some z) (hsz:(P.info? e).map (·.size)=some size) (hby:(P.info? e).map (·.bytes)=some bytes) (kl kc:IntKind) (l' c':Int) (hl:a.eval l=.int kl l') (hc:a.eval c=.int kc c')
  (h0:0≤l') (hlc:l'≤c') (hb:(bytes:Int)*c'≤281474976710656) (h63:c'≤9223372036854775807)
  (h:∀b w1,St B w0 ((b,madeCells z.cells (c'.toNat*size),e)::L) w1→Below w.heap.size w w1→K (a.put o.dst (.slice (some ⟨b,0,none⟩) l'.toNat c'.toNat)) w1):Mix.mxOp P ops j K a w:=by
 refine Mix.mxOp_go hi0 hw ?_
 cases hq:P.info? e with
 |none=>simp[hq] at hz
 |some i =>
  have hi:i.zero=some z:=by simpa[hq] using hz
  have hs:i.size=size:=by simpa[hq] using hsz
  have hbb:i.bytes=bytes:=by simpa[hq] using hby
  subst hs;subst hbb;unfold Oper.wp execOp;simp only[ho,hl,hc,Sem.run_bind,run_make w t e i z ht hq hi kl kc l' c' h0 hlc hb h63,Sem.run_pure,Result.andThen_ok,Oper.upon];exact h _ _ (st.new _ e) ((Below.refl _ _).alloc (Nat.le_refl _) _)
end
theorem builtClaim(ka va:Option Addr)(kn kc vn vc:Nat)(p:Bool):Tryz.prog.built 24 [(0,.slice ka kn kc),(1,.slice va vn vc),(2,.bool p)]=some #[.slice ka kn kc,.slice va vn vc,.bool p]:=by kernel_rfl
theorem made32:madeCells (Value.int .u8 0).cells ((32:Int).toNat*1)=kv zAH:=by kernel_rfl
theorem fill7:Instr.fill (fun i=>some (i*1,1)) ((Array.range (1*1)).map ((Value.int .u8 0).cells[·%(Value.int .u8 0).cells.size]!)) [(0,.int .u8 7)]=some (kv [7]):=by kernel_rfl
theorem bytes_example(vd:List Nat)(h:∀x∈vd,x<256):∀x∈zGT++(zAH++vd),x<256:=by
 intro x hx;rcases List.mem_append.1 hx with hx | hx
 ·exact(by decide:∀x∈zGT,x<256) x hx
 ·rcases List.mem_append.1 hx with hx | hx
  ·exact(by decide:∀x∈zAH,x<256) x hx
  ·exact h x hx
theorem got_far{w wx:World}(h:GotET w)(hb:Below w.heap.size w wx):GotET wx:=(World.cell?_of_block (w:=w) (hb.block 0 (block_lt_of_cell h))).trans h
theorem far_ne0{w:World}{cb:Nat}(h:GotET w)(hcb:w.heap.size≤cb):cb≠0:=by
 have:=block_lt_of_cell h;simp at this;omega
theorem check_example(KK:List Int)(D vd:List Nat)(hD:Key D)(hvd:Key vd)(hgood:GoodV KK 256 true D zAH [7] (zGT++(zAH++vd))){B b3 kb2 b72 hb cb cv i3 ik i7:Nat}{av:Option Addr}{w4 wx:World}{L:List (Nat×Array Value×TypeId)}
  (hlen:(zGT++(zAH++vd)).length=100) (hh:HasH hb cb 256 (0+2) wx) (hK:HasK KK wx) (hg:GotET wx) (hcb:cb≠0) (st:St B w4 L wx) (h3:L[i3]?=some (b3,kv D,38)) (hk:L[ik]?=some (kb2,kv zAH,5)) (h7:L[i7]?=some (b72,kv [7],5))
  (hR:RdS wx (.slice av 100 cv) (zGT++(zAH++vd))) :
  Calls Tryz.prog 10 #[.pointer (some ⟨hb,0,none⟩),.slice (some ⟨b3,0,none⟩) 32 32,.agg #[.slice (some ⟨kb2,0,none⟩) 32 32,.slice (some ⟨b72,0,none⟩) 1 1,.bool true],.slice av 100 cv] wx fun e w'=>e=.returned (.int .i64 0)∧wx.grownBy w' (some cb):=by
 have hDl:=hD.len;have V:VGiv KK (some ⟨b3,0,none⟩) (some ⟨kb2,0,none⟩) 32 32 (.slice (some ⟨b72,0,none⟩) ([7]:List Nat).length 1) (.slice av (zGT++(zAH++vd)).length cv) D zAH [7] (zGT++(zAH++vd)) hb cb 256 (0+2) wx :=
  ⟨hh,hK,by decide,by decide,RdB.row (by rw[hDl];decide) (st.at h3),RdB.row (by decide) (st.at hk),RdB.row (by decide) (st.at h7),by rw[hlen];exact hR,by decide,by decide,bytes_example vd hvd.lt,by rw[hDl];decide,by decide,by decide⟩
 have h:=VCheck_calls V true hg hcb;rw[hlen,hDl] at h;refine h.mono ?_;rintro e w' ⟨x,c',rfl,_,_,_,hgr,_,_,hx⟩;rw[hx hgood];exact⟨rfl,hgr⟩
set_option maxRecDepth 20000 in
theorem runs_calls(KK:List Int)(w:World)(hK:HasK KK w)(hg:GotET w) :
  Calls Tryz.prog 8 #[] w fun e w'=>e=.returned (.bool true)∧Below w.heap.size w w':=by
 have HKK:=Lib.hid hK;have HG:=Lib.hid hg;have HN:=Lib.hid (fun wx=>TNew_calls 256 (by decide) wx);clear hK hg;go_enter Tryz.func8,Tryz.ntmps8;go_upto_region 2 with (first
  |(go_at_call 24;refine(HN.out _).mono ?_;rintro e w1 ⟨tb,hb,cb,rfl,htb,hhb,hcb,hne,hrow,hh,hbel⟩))
 have ht0:HasTr tb hb none w1:=hrow;have HT:=Lib.hid ht0;have HH:=Lib.hid hh;have HK1:Hid (HasK KK w1):=HKK.out.call hbel;have stA:=St.init w1;clear ht0 hrow hh;go_upto_region 4 with (first
  |(refine wpList_makeW stA rfl 22 _ _ rfl 5 (.int .u8 0) 1 1 zCC zDU zCN zFD .i64 .i64 32 32 rfl rfl (by omega) (by omega) (by omega) (by omega) ?_;intro kb w2 st2;clear stA;rw[made32] at st2)
  |(refine zAR st2 rfl 22 1 _ rfl 5 zCC _ 1 zDU zCN (by decide) (by decide) [(0,.int .u8 7)] ?_ _ fill7 ?_;(·first | (simp[Act.eval];done) | rfl);intro b7 w3 st3 _;clear st2)
  |(go_at_call 20;refine(TPut_calls KK tb zAH [7] (.slice (some ⟨kb,0,none⟩) 32 32) (some ⟨b7,0,none⟩) 1 hb cb 256 0 _ (HT.out.call st3.below) (HH.out.call st3.below) (by decide) (by decide) zIO (by decide) (by decide) (RdB.row (l:=zAH) (by decide) (st3.at (i:=1) rfl)) (RdB.row (l:=[7]) (by decide) (st3.at (i:=0) rfl)) (HK1.out.call st3.below)).mono ?_;rintro e w4 ⟨nb,a',c',rfl,ht4,hn4,hh4,hbl4⟩))
 have hb4:Below w.heap.size w w4:=(hbel.trans (st3.below.mono hbel.size)).trans (hbl4 w.heap.size htb hcb);clear hbl4 st3 HT HH HK1 hbel hne;have stB:=St.init w4;have HT:=Lib.hid ht4;have HN4:=Lib.hid hn4;have HH4:=Lib.hid hh4;clear ht4 hn4 hh4 HN;have hvd:=Lib.hid (zBG KK 256 [2,7]);have hrd:=Lib.hid (zBG KK 256 (0::(zAH++zBE KK 256 [2,7])));have hgood:=Lib.hid (good_example KK zAH [7] rfl (by decide));have hsl:(zAH++zBE KK 256 [2,7]).length=64:=by rw[List.length_append,hvd.out.len];rfl
 have HSL:=Lib.hid hsl;clear hsl;generalize zBE KK 256 (0::(zAH++zBE KK 256 [2,7]))=D at *;generalize zBE KK 256 [2,7]=vd at *;go_upto_region 6 with (first
  |(go_at_call 21;refine(TRoot_calls tb hb nb _ D hrd.out.len _ _ (HT.out.call stB.below) ((stB.below.block nb (zAG HN4.out)).trans HN4.out)).mono ?_;rintro e w5 ⟨rfl,hbel5⟩;have st5:=St.call stB hbel5;clear stB hbel5)
  |(refine zAE st5 rfl 38 rfl _ zCG ?_;intro b3 w6 st6;clear st5)
  |(refine zAA st6 rfl 38 _ _ rfl 0 b3 rfl (.agg (kv D)) rfl _ _ rfl (zCA hrd.out.len) (by show (kv D).size=_;rw[zAF,hrd.out.len,zAF];rfl) (zBJ _) _ rfl ?_;intro w7 st7;clear st6)
  |(go_at_call 16;refine(zIQ tb hb _ _ (HT.out.call st7.below)).mono ?_;rintro e wH ⟨rfl,rfl⟩)
  |(go_at_call 17;refine(TNode_calls tb hb _ _ (HT.out.call st7.below)).mono ?_;rintro e wH ⟨rfl,rfl⟩)
  |(refine zAM rfl 37 _ rfl [] ?_ _ builtKey0 ?_;(·first | (simp[Act.eval];done) | rfl))
  |(go_at_call 15;refine(Prove_calls _ zAH rfl zAH vd _ rfl rfl hvd.out.len nb _ ((World.cell?_of_block (w:=w4) (st7.below.block nb (zAG HN4.out))).trans ((cell_of_row w4 nb 0 _ _ (0,0) HN4.out).trans (nodeCells_content _ _)))).mono ?_;rintro e w8 ⟨rfl,hbel8⟩;have st8:=St.call st7 hbel8;clear st7 hbel8)
  |(go_at_call 25;refine(EncodeS_calls (zAH++vd) HSL.out _).mono ?_;rintro e w9 ⟨v9,rfl,hrd9,hbel9⟩;have st9:=St.call st8 hbel9;clear st8 hbel9))
 have HR:=Lib.hid hrd9;clear hrd9;have hTr:Hid (∀wx,Below w4.heap.size w4 wx→HasTr tb hb (some ⟨nb,0,none⟩) wx):=fun wx h=>HT.out.call h
 obtain⟨_,av,cv,rfl,hcap⟩:=HR.out;have hlen:(zGT++(zAH++vd)).length=100:=by have:=HSL.out;simp[zGT,zAH] at this ⊢;omega
 have HC:=Lib.hid (fun (kb2 b72 i3 ik i7:Nat) (wx:World) (L:List (Nat×Array Value×TypeId)) (st:St w4.heap.size w4 L wx)=>check_example KK D vd hrd.out hvd.out hgood.out (b3:=b3) (kb2:=kb2) (b72:=b72) (i3:=i3) (ik:=ik) (i7:=i7) (av:=av) (cv:=cv) (B:=w4.heap.size) (w4:=w4) (wx:=wx) (L:=L) hlen (HH4.out.call st.below) ((HKK.out.call hb4).call st.below) (got_far (HG.out) (hb4.trans (st.below.mono hb4.size))) (far_ne0 HG.out hcb) st);have HD:Hid (∀wx w5,Below w4.heap.size w4 wx→wx.grownBy w5 (some cb)→HasTr tb hb (some ⟨nb,0,none⟩) w5∧Below w.heap.size w w5):=fun wx w5 h hgr=>⟨(HT.out.call h).turn (HH4.out.call h) hgr,(hb4.trans (h.mono hb4.size)).trans (zCY hgr (zAG (HH4.out.call h).c) hcb)⟩
 refine Mix2.wp_region_mix (J:=fun wx=>HasTr tb hb (some ⟨nb,0,none⟩) wx) 18 (fun wx=>St w4.heap.size w4 [(b3,kv D,38)] wx∧RdS wx (.slice av (zGT++(zAH++vd)).length cv) (zGT++(zAH++vd))) zBL (by kernel_rfl) ⟨st9.drew,HR.out.call (Below.refl _ _).drew⟩ ?_;intro F inv;rw[hlen];refine Mix2.good_batch (f:=6) F (fun wx wy h hb'=>⟨St.call h.1 hb',h.2.call hb'⟩) (fun _ h=>hTr.out _ h.1.below) [0,1,2,3,4,5,6,7,8,9,10,14] _ _ inv (by kernel_rfl) ?_;clear inv st9;have hcell:True:=trivial
 iterate 9
  (refine Mix.wpUp_cons rfl (fun K hK=>?_);go_simp;apply zAU;· (intro wx hw;go_simp;(try go_ints);(try go_simp);(try (rw[if_pos (by omega)]));(try go_simp);(first | done | rfl))
   refine hK _ ?_;clear hK K)
 (refine Mix.wpUp_cons rfl (fun K hK=>?_);go_simp;refine zER 16 #[.pointer (some ⟨tb,0,none⟩)] ?_ (fun wx stx=>(zIQ tb hb _ wx stx).mono (by rintro e w' ⟨h1,h2⟩;exact⟨h1,by rw[h2];exact Below.refl _ _⟩)) ?_;· (intro wx hw;go_simp)
  refine hK _ ?_;clear hK K)
 iterate 2
  (refine Mix.wpUp_cons rfl (fun K hK=>?_);go_simp;apply zAU;· (intro wx hw;go_simp;(try go_ints);(try go_simp);(try (rw[if_pos (by omega)]));(try go_simp);(first | done | rfl))
   refine hK _ ?_;clear hK K)
 refine Mix.wpUp_nil ?_;intro inv;refine Mix2.good_two (i:=11) (k:=12) (f:=5) (by kernel_rfl) inv (fun w5 st5=>?_) (fun w5 st5=>?_)
 ·clear inv
  refine mxOp_make st5.1 rfl rfl 22 _ _ rfl 5 (.int .u8 0) 1 1 zCC zDU zCN zFD .i64 .i64 32 32 rfl rfl (by omega) (by omega) (by omega) (by omega) (fun kb2 w6 st6 hb6=>?_);rw[made32] at st6;refine⟨fun wx=>St w4.heap.size w4 [(kb2,kv zAH,5),(b3,kv D,38)] wx∧RdS wx (.slice av 100 cv) (zGT++(zAH++vd)),fun wx wy h hb'=>⟨St.call h.1 hb',h.2.call hb'⟩,⟨st6,hlen▸st5.2.call hb6⟩,fun _ h=>hTr.out _ h.1.below,fun inv=>?_⟩;clear st5 st6 hb6;refine Mix2.good_one (i:=12) (f:=4) (by kernel_rfl) inv (fun w7 st7=>?_);clear inv;refine zBQ st7.1 rfl rfl 22 1 _ rfl 5 zCC _ 1 zDU zCN (by decide) (by decide) [(0,.int .u8 7)] (by simp[Act.eval];done) _ fill7 (fun b72 w8 st8 hb8=>?_);refine⟨fun wx=>St w4.heap.size w4 [(b72,kv [7],5),(kb2,kv zAH,5),(b3,kv D,38)] wx∧RdS wx (.slice av 100 cv) (zGT++(zAH++vd)),fun wx wy h hb'=>⟨St.call h.1 hb',h.2.call hb'⟩,⟨st8,st7.2.call hb8⟩,fun _ h=>hTr.out _ h.1.below,fun inv=>?_⟩;clear st7 st8 hb8;refine Mix2.good_batch (f:=3) F (fun wx wy h hb'=>⟨St.call h.1 hb',h.2.call hb'⟩) (fun _ h=>hTr.out _ h.1.below) [13] _ _ inv (by kernel_rfl) ?_;clear inv
  (refine Mix.wpUp_cons rfl (fun K hK=>?_);go_simp;refine zFN 24 _ rfl [(0,.slice (some ⟨kb2,0,none⟩) 32 32),(1,.slice (some ⟨b72,0,none⟩) 1 1),(2,.bool true)] (by first | (simp[Act.eval];done) | rfl) _ (builtClaim _ _ _ _ _ _ _) ?_
   refine hK _ ?_;clear hK K)
  refine Mix.wpUp_nil ?_;intro inv;refine Mix2.good_one (i:=15) (f:=2) (by kernel_rfl) inv (fun w9 st9=>?_);clear inv;refine zAT rfl rfl 10 #[.pointer (some ⟨hb,0,none⟩),.slice (some ⟨b3,0,none⟩) 32 32,.agg #[.slice (some ⟨kb2,0,none⟩) 32 32,.slice (some ⟨b72,0,none⟩) 1 1,.bool true],.slice av 100 cv] (by go_simp) ?_;refine(HC.out kb2 b72 2 1 0 _ _ st9.1 rfl rfl rfl st9.2).mono ?_;rintro e w10 ⟨rfl,hgr⟩;obtain⟨hT10,hb10⟩:=HD.out _ _ st9.1.below hgr;refine⟨_,rfl,fun wx=>HasTr tb hb (some ⟨nb,0,none⟩) wx∧Below w.heap.size w wx,fun wx wy h hb'=>⟨h.1.call hb',h.2.trans (hb'.mono h.2.size)⟩,⟨hT10,hb10⟩,fun _ h=>h.1,fun inv=>?_⟩;clear st9 hgr hT10 hb10;refine Mix2.good_batch (f:=0) F (fun wx wy h hb'=>⟨h.1.call hb',h.2.trans (hb'.mono h.2.size)⟩) (fun _ h=>h.1) [16,17] _ _ inv (by kernel_rfl) ?_;clear inv
  iterate 2
   (refine Mix.wpUp_cons rfl (fun K hK=>?_);go_simp;apply zAU;· (intro wx hw;go_simp;(try go_ints);(try go_simp);(try (rw[if_pos (by omega)]));(try go_simp);(first | done | rfl))
    refine hK _ ?_;clear hK K)
  refine Mix.wpUp_nil ?_;intro inv;clear inv F;refine⟨by kernel_rfl,fun w11 st11=>?_⟩;simp only[List.drop_succ_cons,List.drop_zero];go_wp2;go_ret;exact⟨rfl,st11.2⟩
 ·clear inv
  refine zBQ st5.1 rfl rfl 22 1 _ rfl 5 zCC _ 1 zDU zCN (by decide) (by decide) [(0,.int .u8 7)] (by simp[Act.eval];done) _ fill7 (fun b72 w6 st6 hb6=>?_);refine⟨fun wx=>St w4.heap.size w4 [(b72,kv [7],5),(b3,kv D,38)] wx∧RdS wx (.slice av 100 cv) (zGT++(zAH++vd)),fun wx wy h hb'=>⟨St.call h.1 hb',h.2.call hb'⟩,⟨st6,hlen▸st5.2.call hb6⟩,fun _ h=>hTr.out _ h.1.below,fun inv=>?_⟩;clear st5 st6 hb6;refine Mix2.good_one (i:=11) (f:=4) (by kernel_rfl) inv (fun w7 st7=>?_);clear inv;refine mxOp_make st7.1 rfl rfl 22 _ _ rfl 5 (.int .u8 0) 1 1 zCC zDU zCN zFD .i64 .i64 32 32 rfl rfl (by omega) (by omega) (by omega) (by omega) (fun kb2 w8 st8 hb8=>?_);rw[made32] at st8;refine⟨fun wx=>St w4.heap.size w4 [(kb2,kv zAH,5),(b72,kv [7],5),(b3,kv D,38)] wx∧RdS wx (.slice av 100 cv) (zGT++(zAH++vd)),fun wx wy h hb'=>⟨St.call h.1 hb',h.2.call hb'⟩,⟨st8,st7.2.call hb8⟩,fun _ h=>hTr.out _ h.1.below,fun inv=>?_⟩;clear st7 st8 hb8;refine Mix2.good_batch (f:=3) F (fun wx wy h hb'=>⟨St.call h.1 hb',h.2.call hb'⟩) (fun _ h=>hTr.out _ h.1.below) [13] _ _ inv (by kernel_rfl) ?_;clear inv
  (refine Mix.wpUp_cons rfl (fun K hK=>?_);go_simp;refine zFN 24 _ rfl [(0,.slice (some ⟨kb2,0,none⟩) 32 32),(1,.slice (some ⟨b72,0,none⟩) 1 1),(2,.bool true)] (by first | (simp[Act.eval];done) | rfl) _ (builtClaim _ _ _ _ _ _ _) ?_
   refine hK _ ?_;clear hK K)
  refine Mix.wpUp_nil ?_;intro inv;refine Mix2.good_one (i:=15) (f:=2) (by kernel_rfl) inv (fun w9 st9=>?_);clear inv;refine zAT rfl rfl 10 #[.pointer (some ⟨hb,0,none⟩),.slice (some ⟨b3,0,none⟩) 32 32,.agg #[.slice (some ⟨kb2,0,none⟩) 32 32,.slice (some ⟨b72,0,none⟩) 1 1,.bool true],.slice av 100 cv] (by go_simp) ?_;refine(HC.out kb2 b72 2 0 1 _ _ st9.1 rfl rfl rfl st9.2).mono ?_;rintro e w10 ⟨rfl,hgr⟩;obtain⟨hT10,hb10⟩:=HD.out _ _ st9.1.below hgr;refine⟨_,rfl,fun wx=>HasTr tb hb (some ⟨nb,0,none⟩) wx∧Below w.heap.size w wx,fun wx wy h hb'=>⟨h.1.call hb',h.2.trans (hb'.mono h.2.size)⟩,⟨hT10,hb10⟩,fun _ h=>h.1,fun inv=>?_⟩;clear st9 hgr hT10 hb10;refine Mix2.good_batch (f:=0) F (fun wx wy h hb'=>⟨h.1.call hb',h.2.trans (hb'.mono h.2.size)⟩) (fun _ h=>h.1) [16,17] _ _ inv (by kernel_rfl) ?_;clear inv
  iterate 2
   (refine Mix.wpUp_cons rfl (fun K hK=>?_);go_simp;apply zAU;· (intro wx hw;go_simp;(try go_ints);(try go_simp);(try (rw[if_pos (by omega)]));(try go_simp);(first | done | rfl))
    refine hK _ ?_;clear hK K)
  refine Mix.wpUp_nil ?_;intro inv;clear inv F;refine⟨by kernel_rfl,fun w11 st11=>?_⟩;simp only[List.drop_succ_cons,List.drop_zero];go_wp2;go_ret;exact⟨rfl,st11.2⟩
end
end Go.Proofs.YtlcngapphloafaaGreatDoor
