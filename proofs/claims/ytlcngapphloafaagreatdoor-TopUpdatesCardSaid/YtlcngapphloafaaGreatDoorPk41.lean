/- Parts of the proof that are used by the claim: TApply. No condition is added here. -/
import Derived.Test.YtlcngapphloafaaGreatDoorPk40
import Derived.Test.YtlcngapphloafaaGreatDoorPk35
import Derived.Test.YtlcngapphloafaaGreatDoorPk28
import Derived.Test.YtlcngapphloafaaGreatDoorPk27
namespace Go.Proofs.YtlcngapphloafaaGreatDoor
section
set_option maxHeartbeats 4000000
open Go Go.RowKit
attribute [local irreducible] Inv.wpInv Mix.wpUp zCI
def cvU(kb:Upd→List Nat)(va:Value→List Nat)(u:Upd):CV:=(chOf kb u,if u.del then [] else va (.slice u.va u.vn u.vc))
def cvC(va:Value→List Nat)(c:Chg):CV:=(c,if c.del then [] else va (.slice c.va c.vn c.vc))
theorem cvC_of(kb:Upd→List Nat)(va:Value→List Nat)(u:Upd):cvC va (chOf kb u)=cvU kb va u:=by
 unfold cvC cvU chOf
 cases h:u.del<;>simp
theorem cvC_map(va:Value→List Nat)(cs:List Chg):(cs.map (cvC va)).map (·.1)=cs:=by
 rw[List.map_map];exact List.map_id _
def UpsB(w:World)(kb:Upd→List Nat)(va:Value→List Nat)(us:List Upd):Prop:=∀u∈us,(RdB w (.slice u.ka u.kn u.kc) (kb u)∧(∀x∈kb u,x<256)∧u.kn=(kb u).length∧u.vn≤1000000)∧(RdB w (.slice u.va u.vn u.vc) (va (.slice u.va u.vn u.vc))∧(∀x∈va (.slice u.va u.vn u.vc),x<256)∧u.vn=(va (.slice u.va u.vn u.vc)).length)
theorem OkU.keys{w:World}{kb:Upd→List Nat}{va:Value→List Nat}{us:List Upd}(h:OkU kb us)(hu:UpsB w kb va us):∀u∈us,Key (kb u)∧(u.del=false→u.vn≤65535):=fun u hm=>by
 have h1:=h.1 u hm;obtain⟨⟨_,h2,h3,_⟩,_⟩:=hu u hm;unfold zFT zFF at h1
 by_cases h4:u.kn=32
 ·rw[if_pos h4] at h1
  refine⟨⟨by omega,h2⟩,fun hd=>?_⟩;rw[hd] at h1
  by_cases h5:u.vn≤65535
  ·exact h5
  ·simp[h5] at h1
 ·rw[if_neg h4] at h1
  exact absurd h1 (by decide)
theorem apply_ok{kb:Upd→List Nat}{va:Value→List Nat}{us:List Upd}{es:List Ent}{cs:List Chg}{w:World}(hD:DistB es 0)(h:OkU kb us)(hu:UpsB w kb va us)(hp:cs.Perm (us.map (chOf kb)))(ha:AscCh cs):ApOK es (cs.map (cvC va)) 0∧GoodCV w (cs.map (cvC va))∧zCI 257 (zGI es (cs.map (cvC va))) 0=zCI 257 (zGI es (us.map (cvU kb va))) 0:=by
 have hk:=h.keys hu;have hmem:∀p∈cs.map (cvC va),∃u∈us,p=cvU kb va u:=fun p hpm=>by
  obtain⟨c,hc,rfl⟩:=List.mem_map.1 hpm;obtain⟨u,hu',rfl⟩:=List.mem_map.1 (hp.mem_iff.1 hc);exact⟨u,hu',cvC_of kb va u⟩
 refine⟨⟨hD,by rw[cvC_map];exact ha,fun p hpm=>?_,fun _ _ _ _ j hj=>absurd hj (Nat.not_lt_zero _),fun _ _ _ _ j hj=>absurd hj (Nat.not_lt_zero _)⟩,fun p hpm=>?_,?_⟩
 ·obtain⟨u,hu',rfl⟩:=hmem p hpm
  exact(hk u hu').1
 ·obtain⟨u,hu',rfl⟩:=hmem p hpm
  obtain⟨_,h1,h2,h3⟩:=hu u hu';unfold cvU chOf
  cases hd:u.del
  ·have h4:=(hk u hu').2 hd
   exact⟨h1,h2,by show (va _).length≤_;omega,h3⟩
  ·exact⟨RdB.nil _,fun x hx=>(List.not_mem_nil hx).elim,Nat.zero_le _,rfl⟩
 ·refine bldT_perm 257 0 (appE_perm ?_)
  have:=hp.map (cvC va);rw[List.map_map] at this
  rwa [show (cvC va∘chOf kb)=cvU kb va from funext fun u=>cvC_of kb va u] at this
def TApPost(KK:List Int)(bits:Int)(tb hb cb:Nat)(n c:Int)(T:Tr)(ok:Prop)(w:World)(e:Ending)(w':World):Prop :=
 (ok∧TrPost KK bits tb hb cb n c T .nilIface w e w')∨(¬ok∧∃(v:Value) (at' code:Int),e=.returned v∧IsErr w' v [(opApply,at')] (.iface 31 (.int .i64 code))∧Below w.heap.size w w')
set_option maxRecDepth 20000 in
theorem TApply_calls(KK:List Int)(tb hb cb:Nat)(bits n:Int)(es:List Ent)(kb:Upd→List Nat)(va:Value→List Nat)(us:List Upd)(vu:Value)(p:Option Addr)(w:World)(ht:HasTr tb hb p w)(hh:HasH hb cb bits n w)(hB:0≤bits∧bits≤256)(hK:HasK KK w)(hr:RepT KK bits w p (zCI 257 es 0))(hD:DistB es 0)(hv:RdU w vu us)(hl:us.length≤900)(hu:UpsB w kb va us)(hn:0≤n)(hnc:n+zEZ us.length 0≤3999999999999980000) :
  Calls Tryz.prog 74 #[.pointer (some ⟨tb,0,none⟩),vu] w (TApPost KK bits tb hb cb n (zEZ us.length 0) (zCI 257 (zGI es (us.map (cvU kb va))) 0) (OkU kb us) w):=by
 have HC:=Changes_calls kb us vu w hv (by omega) (fun u hm=>(hu u hm).1);obtain⟨la,lc,rfl,_⟩:=hv.form
 by_cases hok:OkU kb us
 ·have HC1:=Lib.hid (HC.mono (fun e w' h=>(show ∃(v':Value) (cs':List Chg),e=.returned (.tuple #[v',.nilIface])∧RdCh w' v' cs'∧cs'.Perm (us.map (chOf kb))∧AscCh cs'∧Below w.heap.size w w' by
   rcases h.2 with ⟨_,v',cs',h1,h2,h3,h4⟩ | ⟨h1,_⟩
   ·exact⟨v',cs',h1,h2,h3,h4,h.1⟩
   ·exact absurd hok h1)))
  have HA:Hid (∀(w1 wx:World)(v':Value) (cs':List Chg),Below w.heap.size w w1→DataKept w1 wx→RdCh w1 v' cs'→cs'.Perm (us.map (chOf kb))→AscCh cs'→HasH hb cb bits n wx→HasK KK wx→RepT KK bits wx p (zCI 257 es 0) →
    Calls Tryz.prog 120 #[.pointer (some ⟨hb,0,none⟩),.pointer p,v'] wx (BAPost KK bits hb cb n (zEZ us.length 0) (zCI 257 (zGI es (us.map (cvU kb va))) 0) wx)):=fun w1 wx v' cs' hb1 hbx hrd hp ha h1 h2 h3=>by
   obtain⟨g1,g2,g3⟩:=apply_ok hD hok hu hp ha;have hlen:(cs'.map (cvC va)).length=us.length:=by rw[List.length_map,hp.length_eq,List.length_map]
   have:=BApply_calls KK hb cb bits hB es (cs'.map (cvC va)) p v' n wx g1 ((g2.call hb1).data hbx) (by omega) (by rw[cvC_map];exact RdG.data chc_data hrd hbx) h1 h2 hn (by rw[hlen];exact hnc) h3
   rwa [hlen,g3] at this
  have HT:=Lib.hid ht;have HR:=Lib.hid hr;have HH:=Lib.hid hh;have HKK:=Lib.hid hK;have HI:=Lib.hid (fun wx=>Is_calls [] (.iface 31 (.int .i64 0)) 0 0 wx rfl);generalize zCI 257 (zGI es (us.map (cvU kb va))) 0=T at *;generalize zCI 257 es 0=T0 at *;generalize zEZ us.length 0=cc at *;have HPo:Hid (∀(w':World)(p':Option Addr) (n':Int),HasTr tb hb p' w'→RepT KK bits w' p' T→HasH hb cb bits n' w'→n≤n'→n'≤n+cc→DataKept w w'→w.heap.size≤w'.heap.size→(∀B,B≤tb→B≤cb→Below B w w')→TApPost KK bits tb hb cb n cc T (OkU kb us) w (.returned .nilIface) w'):=fun w' p' n' h1 h2 h3 h4 h5 h6 h7 h8=>.inl ⟨hok,p',n',rfl,h1,h2,h3,h4,h5,h6,h7,h8⟩
  generalize TApPost KK bits tb hb cb n cc T (OkU kb us) w=R at *;clear ht hh hK hr hD hv hl hu hn hnc hB HC hok;go_enter Tryz.func74,Tryz.ntmps74
  go_wp2_with (first
   |(go_at_call 119;refine HC1.out.mono ?_;rintro e w1 ⟨v1,cs1,rfl,hrd1,hp1,ha1,hb1⟩))
  have HA1:=Lib.hid (fun wx hbx=>HA.out w1 wx v1 cs1 hb1 hbx hrd1 hp1 ha1);have HT1:=Lib.hid (HT.out.call hb1);have HH1:=Lib.hid (HH.out.call hb1);have HR1:=Lib.hid (HR.out.call hb1);have HK1:=Lib.hid (HKK.out.call hb1);have Hb1:=Lib.hid hb1;have Htl:=Lib.hid (zAG HT.out);have Hcl:=Lib.hid (zAG HH.out.c);clear hrd1 hp1 ha1 HA HT HH HR HKK hb1;have st0:=StH.init HH1.out (St.init w1);have st4':StH w1 cb n [] w1:=st0;clear st0;have q:∀wx,(∃m,StH w1 cb m [] wx)→wx.cell? ⟨tb,0,none⟩=some (.pointer (some ⟨hb,0,none⟩))∧wx.cell? ⟨tb,1,none⟩=some (.pointer p):=fun wx ⟨_,hw⟩=>by
   have h:=HT1.out.turn HH1.out (StH.grown hw);exact⟨h.cell0,h.cell1⟩
  refine Mix2.wp_region_mix (J:=fun wx=>∃m,StH w1 cb m [] wx) 15 (StH w1 cb n []) zBL (by kernel_rfl) st4'.drew ?_;intro F inv;refine Mix2.good_batch (f:=6) F St.up (fun _ h=>⟨_,h⟩) [0,1,2,3,4,5,6,7,8] _ _ inv (by kernel_rfl) ?_;clear inv st4'
  iterate 9
   (refine Mix.wpUp_cons rfl (fun K hK=>?_);go_simp;apply zAU;· (intro wx hw;have q1:=q wx hw;go_simp;(try go_ints);(try go_simp);(try (rw[if_pos (by omega)]));(try go_simp);(first | done | rfl))
    refine hK _ ?_;clear hK K)
  refine Mix.wpUp_nil ?_;intro inv;refine Mix2.good_one (i:=9) (f:=5) (by kernel_rfl) inv (fun w6 st6=>?_);clear inv q;refine zAT rfl rfl 120 #[.pointer (some ⟨hb,0,none⟩),.pointer p,v1] (by go_simp) ?_;refine(HA1.out _ (DataKept.turn HH1.out (StH.grown st6)) (StH.has st6 HH1.out) (StH.hasK st6 HH1.out HK1.out) (StH.rep st6 HH1.out HR1.out)).mono ?_;rintro e w7 ⟨p7,n7,rfl,hr7,hg,hh7,ha7,hb7⟩;have st7:=StH.sum st6 HH1.out hg hh7;refine⟨_,rfl,fun wx=>StH w1 cb n7 [] wx∧RepT KK bits wx p7 T,?_,⟨st7,hr7⟩,fun _ h=>⟨_,h.1⟩,fun inv=>?_⟩
  ·exact fun wx wy h hb=>⟨St.call h.1 hb,h.2.call hb⟩
  clear st6 hg hr7 st7 hh7 w6 w7;refine Mix2.good_batch (f:=0) F (fun _ _ h hb=>⟨St.call h.1 hb,h.2.call hb⟩) (fun _ h=>⟨_,h.1⟩) [10,11,12,13,14] _ _ inv (by kernel_rfl) ?_;clear inv
  iterate 5
   (refine Mix.wpUp_cons rfl (fun K hK=>?_);go_simp;apply zAU;· (intro wx hw;go_simp;(try go_ints);(try go_simp);(try (rw[if_pos (by omega)]));(try go_simp);(first | done | rfl))
    refine hK _ ?_;clear hK K)
  refine Mix.wpUp_nil ?_;intro inv;clear inv F;refine⟨by kernel_rfl,fun w7 ⟨st7,hr7⟩=>?_⟩;have ht7:=HT1.out.turn HH1.out (StH.grown st7);have hh7:=StH.has st7 HH1.out;have HR7:=Lib.hid hr7;clear hr7;simp only[List.drop_succ_cons,List.drop_zero]
  go_wp2_with (first
   |(go_at_call 121;refine(HI.out _).mono ?_;rintro e w8 ⟨rfl,hwq⟩;obtain rfl:=hwq.symm;clear hwq)
   |(go_at_call 88;refine(failOK_calls _ _ _).mono ?_;rintro e w9 ⟨rfl,hwq⟩;obtain rfl:=hwq.symm;clear hwq)
   |((with_reducible refine zAN 59 ?_);refine zDR rfl 59 _ _ rfl tb 1 rfl (.pointer p7) rfl _ _ ht7 zFU rfl (by simp) rfl _ rfl ?_;intro w8 hg8 ht8))
  exact HPo.out _ p7 n7 ht8 (HR7.out.box ht7 (by decide) (fun i x=>by rcases i with _ | _ | i<;>simp) hg8) (hh7.keep ht7 hg8) ha7 hb7
   ((DataKept.call Hb1.out).trans ((DataKept.turn HH1.out (StH.grown st7)).trans (DataKept.tree ht7 hg8))) (Nat.le_trans Hb1.out.size (Nat.le_trans (StH.grown st7).size hg8.size))
   (fun B h1 h2=>(Hb1.out.mono (Nat.le_of_lt (Nat.lt_of_le_of_lt h1 Htl.out))).trans ((zCY (StH.grown st7) (zAG HH1.out.c) h2).trans (zCY hg8 (zAG ht7) h1)))
 ·have HC1:=Lib.hid (HC.mono (fun e w' h=>(show ∃(v:Value) (at' code:Int),e=.returned (.tuple #[.slice none 0 0,v])∧IsErr w' v [(opApply,at')] (.iface 31 (.int .i64 code))∧Below w.heap.size w w' by
   rcases h.2 with ⟨h1,_⟩ | ⟨_,v,a',c',h1,h2⟩
   ·exact absurd h1 hok
   ·exact⟨v,a',c',h1,h2,h.1⟩)))
  have HPo:Hid (∀(w':World)(v:Value) (at' code:Int),IsErr w' v [(opApply,at')] (.iface 31 (.int .i64 code))→Below w.heap.size w w'→TApPost KK bits tb hb cb n (zEZ us.length 0) (zCI 257 (zGI es (us.map (cvU kb va))) 0) (OkU kb us) w (.returned v) w'):=fun w' v a' c' h1 h2=>.inr ⟨hok,v,a',c',rfl,h1,h2⟩
  generalize TApPost KK bits tb hb cb n (zEZ us.length 0) (zCI 257 (zGI es (us.map (cvU kb va))) 0) (OkU kb us) w=R at *;clear ht hh hK hr hD hv hl hu hn hnc hB HC hok;go_enter Tryz.func74,Tryz.ntmps74
  go_wp2_with (first
   |(go_at_call 119;refine HC1.out.mono ?_;rintro e w1 ⟨v1,a1,c1,rfl,hi1,hb1⟩;obtain⟨t1,u1,rfl⟩:=hi1.iface))
  exact HPo.out _ _ _ _ hi1 hb1
end
end Go.Proofs.YtlcngapphloafaaGreatDoor
