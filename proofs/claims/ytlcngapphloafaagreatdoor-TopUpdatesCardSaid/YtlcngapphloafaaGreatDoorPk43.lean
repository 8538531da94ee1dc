/- Parts of the proof that are used by the claim: ProveU. No condition is added here. -/
import Derived.Test.YtlcngapphloafaaGreatDoorPk27
namespace Go.Proofs.YtlcngapphloafaaGreatDoor
section
set_option maxHeartbeats 4000000
open Go Go.RowKit
attribute [local irreducible] Inv.wpInv Mix.wpUp
def ProvePostU(KK:List Int)(bits:Int)(k:List Nat)(m:Nat)(nd:Nat→Tr)(w:World)(e:Ending)(w':World):Prop :=
 ∃av cv,e=.returned (.agg (zAB (zBZ (nd m)) (m:Nat) (zFW KK bits (nd m)) (bmS (fun i=>zCH (nd i) (1 - zDQ k (i:Nat))) m) (.slice av (sbS KK bits (fun i=>zCH (nd i) (1 - zDQ k (i:Nat))) m).length cv))) ∧
  RdD w' (.slice av (sbS KK bits (fun i=>zCH (nd i) (1 - zDQ k (i:Nat))) m).length cv) (sbS KK bits (fun i=>zCH (nd i) (1 - zDQ k (i:Nat))) m).length (sbS KK bits (fun i=>zCH (nd i) (1 - zDQ k (i:Nat))) m).flatten∧Below w.heap.size w w'∧(∀g,(Value.slice av (sbS KK bits (fun i=>zCH (nd i) (1 - zDQ k (i:Nat))) m).length cv).ownBlock=some g→w.heap.size≤g∧g<w'.heap.size)
set_option maxRecDepth 20000 in
theorem ProveU_calls(KK:List Int)(bits:Int)(hp:Value)(k:List Nat)(hk:Key k)(t:Tr)(p:Option Addr)(w:World)(ht:RepT KK bits w p t)(m:Nat)(nd:Nat→Tr)(hW:WayN k t 0 m nd) :
  Calls Tryz.prog 15 #[hp,.pointer p,.agg (kv k)] w (ProvePostU KK bits k m nd w):=by
 have HP:Hid (∀(av:Option Addr)(cv:Nat) (w':World),RdD w' (.slice av (sbS KK bits (fun i=>zCH (nd i) (1 - zDQ k (i:Nat))) m).length cv) (sbS KK bits (fun i=>zCH (nd i) (1 - zDQ k (i:Nat))) m).length (sbS KK bits (fun i=>zCH (nd i) (1 - zDQ k (i:Nat))) m).flatten→Below w.heap.size w w'→(∀g,(Value.slice av (sbS KK bits (fun i=>zCH (nd i) (1 - zDQ k (i:Nat))) m).length cv).ownBlock=some g→w.heap.size≤g∧g<w'.heap.size) →
   ProvePostU KK bits k m nd w (.returned (.agg (zAB (zBZ (nd m)) (m:Nat) (zFW KK bits (nd m)) (bmS (fun i=>zCH (nd i) (1 - zDQ k (i:Nat))) m) (.slice av (sbS KK bits (fun i=>zCH (nd i) (1 - zDQ k (i:Nat))) m).length cv)))) w'):=fun av cv w' h1 h2 h3=>⟨av,cv,rfl,h1,h2,h3⟩
 generalize ProvePostU KK bits k m nd w=R at *;have hm:=hW.le;have HT:=Lib.hid ht;have Hk:=Lib.hid hk.len;have HLo:=Lib.hid (fun wx h=>LocateT_calls KK bits k hk t p wx h m nd hW);have HSi:=Lib.hid (fun wx h=>SiblingsT_calls KK bits k hk t p w wx ht h m nd hW);clear ht hk hW;unfold SibPost at HSi;generalize hts:(fun i=>zCH (nd i) (1 - zDQ k (i:Nat)))=ts at *;have HTs:∀i,zCH (nd i) (1 - zDQ k (i:Nat))=ts i:=fun i=>by rw[←hts]
 have HTs:=Lib.hid HTs;clear hts;have HZ:=Lib.hid zeroProof;have HS0:Hid ((zAB 0 0 (List.replicate 64 0) zAH (.slice none 0 0)).size=99):=zAO zCZ rfl;generalize hzc:zAB 0 0 (List.replicate 64 0) zAH (.slice none 0 0)=zc at *;have HBk:=Lib.hid (bmS_key ts);obtain⟨dP,hdP,haP⟩:=zGE;have st:=St.init w;go_enter Tryz.func15,Tryz.ntmps15
 go_wp2_with (first
  |(refine zAD st rfl 37 _ rfl _ rfl ?_;intro b5 w1 st1;clear st)
  |((with_reducible refine zAW 43 ?_);first
    |(refine zAE st1 rfl 43 rfl _ HZ.out ?_;intro b6 w2 st2;clear st1)
    |(refine zAE st5 rfl 43 rfl _ HZ.out ?_;intro b9 w6 st6;clear st5))
  |((with_reducible refine zBA 37 ?_);first
    |(refine zAC rfl 37 _ rfl b5 rfl _ zBF rfl _ _ (st2.at (i:=1) rfl) (zAX Hk.out) ?_)
    |(refine zAC rfl 37 _ rfl b5 rfl _ zBF rfl _ _ (st8.at (i:=3) rfl) (zAX Hk.out) ?_))
  |(go_at_call 38;refine(HLo.out _ (HT.out.call st2.below)).mono ?_;rintro e w3 ⟨q,rfl,hrq,hbel⟩;have st3:=St.call st2 hbel;have HRq:=Lib.hid (hrq.call hbel);clear hbel st2 hrq;have HKd:=Lib.hid (zBW KK bits (nd m) q w3 HRq.out))
  |(go_at_call 39;refine HKd.out.mono ?_;rintro e w4 ⟨rfl,hw4⟩;obtain rfl:=hw4.symm;have HLf:=Lib.hid (zGF KK bits (nd m) q w3 HRq.out);have Hl64:=Lib.hid (zJC HRq.out);have HB:=Lib.hid (builtProof3 (zBZ (nd m)) (m:Nat) (zFW KK bits (nd m)) Hl64.out);have HS1:Hid (∀(bm:List Nat)(s:Value),bm.length=32→(zAB (zBZ (nd m)) (m:Nat) (zFW KK bits (nd m)) bm s).size=99):=(fun bm s hb=>zAO Hl64.out hb);have H1:Hid (∀(bm:List Nat)(a:Option Addr) (n c:Nat),bm.length=32→∀u∈(zAB (zBZ (nd m)) (m:Nat) (zFW KK bits (nd m)) bm (.slice a n c)).toList,u.oneCell'=true):=(fun bm a n c hb=>zDI rfl);clear HKd;generalize zBZ (nd m)=kd at *;generalize zFW KK bits (nd m)=lf at *)
  |(go_at_call 40;refine HLf.out.mono ?_;rintro e w5 ⟨rfl,hbel⟩;have st5:=St.call st3 hbel;clear hbel st3)
  |((with_reducible refine zEG 43 ?_);refine zAM rfl 43 _ rfl [(0,.int .i64 kd),(1,.int .i64 (m:Nat)),(2,.agg (kv lf))] ?_ _ HB.out ?_;(·first | (simp[Act.eval];done) | (simp[Act.eval,Act.put];done) | rfl))
  |((with_reducible refine zAN 43 ?_);refine zAA st6 rfl 43 _ _ rfl 0 b9 rfl (.agg (zAB kd (m:Nat) lf zAH (.slice none 0 0))) rfl _ _ rfl (zAQ (HS1.out _ _ rfl)) (by show (zAB kd (m:Nat) lf zAH (.slice none 0 0)).size=_;rw[HS1.out _ _ rfl,HS0.out]) (H1.out _ none 0 0 rfl) _ rfl ?_;intro w7 st7;clear st6)
  |((with_reducible refine zAW 105 ?_);refine zAE st7 rfl 105 rfl _ zeroBm ?_;intro b10 w8 st8;clear st7)
  |(go_at_call 41;refine(HSi.out _ st8.below).mono ?_;rintro e w9 ⟨sa,sc,ps,rfl,hrd,hrs,hbel⟩;have st9:=St.call st8 hbel;have hlt8:=hlt4 st8;have hMM:=hbel.size;have HRs:Hid (∀i<m,RepT KK bits w (ps i) (ts i)):=(fun i hi=>by have h:=hrs i hi;rwa [HTs.out i] at h);clear hbel st8 hrs))
 have st10:St w.heap.size w [(b10,kv (bmS ts 0),105),(b9,zAB kd (m:Nat) lf zAH (.slice none 0 0),43),(b6,zc,43),(b5,kv k,37)] w9:=st9;clear st9;obtain⟨M,hM⟩:∃M,M=w9.heap.size:=⟨_,rfl⟩
 obtain⟨M0,hM0⟩:∃M0,M0=w8.heap.size:=⟨_,rfl⟩
 rw[←hM0] at hrd hlt8 hMM;rw[←hM] at hMM;have hM9:M≤w9.heap.size:=Nat.le_of_eq hM;obtain⟨sa',sc',e3,hrdn⟩:=RdN.of_own hrd;obtain⟨rfl,rfl⟩:sa=sa'∧sc=sc':=by injection e3 with h1 h2 h3;exact⟨h1,h3⟩
 have Hsa:Hid (∀ad,sa=some ad→M0≤ad.block∧ad.block<M):=fun ad e=>by
  rw[hM];exact hrd.lt ad.block (by rw[e];rfl)
 have HM0:Hid (w.heap.size≤M):=by unfold Hid;rw[hM];exact st10.size
 clear hrd hM hM0 e3;have hq0:=hlt8
 go_loopw [29] (fun i wr=>∃(j:Nat) (av:Option Addr) (cv:Nat),i=.int .i64 (j:Nat)∧j≤m∧St w.heap.size w [(b10,kv (bmS ts j),105),(b9,zAB kd (m:Nat) lf zAH ((.slice av (sbS KK bits ts j).length cv)),43),(b6,zc,43),(b5,kv k,37)] wr∧wr.ownsRow M 38 32 (.slice av (sbS KK bits ts j).length cv) (sbS KK bits ts j).length (zAJ (sbS KK bits ts j).flatten)∧M≤wr.heap.size∧RdN wr sa m ps) (fun i _=>((m:Int) - intOf i).toNat)
 case atStart=>exact⟨0,none,0,rfl,Nat.zero_le _,st10,World.ownsRow_nil _ _ _ _,hM9,hrdn⟩
 case round =>
  obtain⟨j,av,cv,rfl,hj,st11,hown,hMr,hrd11⟩:=hrel;clear st10 hrdn hM9
  by_cases hlt:j<m
  ·have hji:((j:Nat):Int)<(m:Nat):=by omega
   obtain⟨g,off,hsa,hpc⟩:=hrd11 j hlt;subst hsa;have HKj:Hid (∀wx,Below w.heap.size w wx→Calls Tryz.prog 39 #[.pointer (ps j)] wx fun e w'=>e=.returned (.int .i64 (zBZ (ts j)))∧w'=wx):=fun wx hb=>zBW KK bits (ts j) (ps j) wx ((HRs.out j hlt).call hb)
   have hlen:=(sbS_len KK bits ts j).1;have HOwn:=Lib.hid hown;have HRdn:=Lib.hid hrd11;have HDg:Hid (∀wx,zBZ (ts j)≠0→Below w.heap.size w wx→Calls Tryz.prog 43 #[hp,.pointer (ps j)] wx fun e w'=>e=.returned (.agg (kv (zJL KK bits (ts j))))∧Below wx.heap.size wx w'):=fun wx hne hb=>DigestNN_calls KK bits (ts j) (ps j) hp hne wx ((HRs.out j hlt).call hb)
   clear hown hrd11;have hKs:zBZ (ts j)=0∨zBZ (ts j)≠0:=by omega
   rcases hKs with hk0 | hk0
   ·rw[hk0] at HKj
    go_wp2_with (first
     |(go_at_call 39;refine(HKj.out _ st11.below).mono ?_;rintro e w12 ⟨rfl,hw12⟩;obtain rfl:=hw12.symm))
    go_roundw
    case rel =>
     have e1:bmS ts (j+1)=bmS ts j:=by show (if zBZ (ts j)=0 then _ else _)=_;rw[if_pos hk0]
     have e2:sbS KK bits ts (j+1)=sbS KK bits ts j:=by show (if zBZ (ts j)=0 then _ else _)=_;rw[if_pos hk0]
     rw[←e1,←e2] at st11;have h:=HOwn.out;rw[←e2] at h;exact⟨j+1,av,cv,rfl,hlt,st11,h,hMr,HRdn.out⟩
    case measure=>simp[intOf];omega
   ·have hkb:(zBZ (ts j)==0)=false:=by simp[hk0]
    have HWi:=Lib.hid (fun wx=>With_calls (bmS ts j) (HBk.out j) (j:Nat) wx);have e1:bmS ts (j+1)=orI (bmS ts j) (j:Nat):=by show (if zBZ (ts j)=0 then _ else _)=_;rw[if_neg hk0]
    have e2:sbS KK bits ts (j+1)=sbS KK bits ts j++[zJL KK bits (ts j)]:=by show (if zBZ (ts j)=0 then _ else _)=_;rw[if_neg hk0]
    rw[←e1] at HWi;have HDg2:=Lib.hid (fun wx hb=>HDg.out wx hk0 hb);have Hdk:=Lib.hid (zDL KK bits (ts j)).len;have He2:=Lib.hid e2;have HBj:=Lib.hid (HBk.out (j+1)).len;clear HDg e1 e2;generalize zJL KK bits (ts j)=dg at *;have HBl:=Lib.hid (HBk.out j).len
    go_wp2_with (first
     |(go_at_call 39;refine(HKj.out _ st11.below).mono ?_;rintro e w12 ⟨rfl,hw12⟩;obtain rfl:=hw12.symm)
     |((with_reducible refine zBA 105 ?_);refine zAC rfl 105 _ rfl b10 rfl _ aggBmE.choose_spec.1 aggBmE.choose_spec.2 _ _ (st11.at (i:=0) rfl) (zEO HBl.out) ?_)
     |(go_at_call 42;refine(HWi.out _).mono ?_;rintro e w13 ⟨rfl,hb13⟩;have st13:=st11.call hb13;have hown13:=zAY HOwn.out hb13;have hM13:=Nat.le_trans hMr hb13.size;have hrd13:=HRdn.out.call hb13;clear st11 HOwn HRdn hMr hb13)
     |((with_reducible refine zAN 105 ?_);(refine zCW st13 rfl 105 _ _ rfl 0 b10 rfl (.agg (kv (bmS ts (j+1)))) rfl _ _ rfl (zEO HBj.out) (by show (kv (bmS ts (j+1))).size=(kv (bmS ts j)).size;rw[zAF,zAF,HBj.out,HBl.out]) (zBJ _) _ rfl ?_);intro w14 st14 hg14;have hown14:=zEQ hown13 hg14 (by omega);have hM14:=Nat.le_trans hM13 hg14.size;have hrd14:=hrd13.ne hg14 (fun ad e=>by have h1:=(Hsa.out ad e).1;intro e2;have h2:=Option.some.inj e2;omega);clear st13 hown13 hM13 hrd13 hg14))
    have HO14:=Lib.hid hown14;have HR14:=Lib.hid hrd14;have st15:St w.heap.size w [(b10,kv (bmS ts (j+1)),105),(b9,zAB kd (m:Nat) lf zAH ((.slice av (sbS KK bits ts j).length cv)),43),(b6,zc,43),(b5,kv k,37)] w14:=st14;clear hown14 hrd14 st14;have hc9:=(st15.cell (i:=1) rfl 98).trans (zCX Hl64.out rfl);refine Mix.wp_region_mix 6 (fun wx=>Below w14.heap.size w14 wx) zBL (by kernel_rfl) (Below.refl _ _).drew ?_;intro F inv;have hup:Mix.Up (fun wx=>Below w14.heap.size w14 wx):=fun _ _ h hb=>h.trans (hb.mono h.size)
    refine Mix.good_batch (f:=2) F hup [0,1,2,3] _ _ inv (by kernel_rfl) ?_;clear inv
    iterate 4
     (refine Mix.wpUp_cons rfl (fun K hK=>?_);go_simp;apply zAU;· (intro wx hw;have q1:=(fun (x:World) (h:Below w14.heap.size w14 x)=>(h.cell (zAS hc9)).trans hc9) wx hw;go_simp;(try go_ints);(try go_simp);(try (rw[if_pos (by omega)]));(try go_simp);(first | done | rfl))
      refine hK _ ?_;clear hK K)
    refine Mix.wpUp_nil ?_;intro inv;refine Mix.good_one (i:=4) (f:=1) (by kernel_rfl) inv (fun w15 hb15=>?_);clear inv;refine zAT rfl rfl 43 #[hp,.pointer (ps j)] (by go_simp) ?_;refine(HDg2.out _ (st15.below.trans (hb15.mono st15.size))).mono ?_;rintro e w16 ⟨rfl,hb16⟩;refine⟨_,rfl,fun wx=>Below w14.heap.size w14 wx,hup,hb15.trans (hb16.mono hb15.size),fun _ h=>h,fun inv=>?_⟩;clear hb15 hb16;refine Mix.good_one (i:=5) (f:=0) (by kernel_rfl) inv (fun w17 hb17=>?_);clear inv;simp only[Act.put,List.getElem_toArray,List.getElem_cons_succ,List.getElem_cons_zero,List.setIfInBounds_toArray,List.set_cons_succ,List.set_cons_zero];refine zBQ (st15.call hb17) rfl rfl 41 1 _ rfl 38 zFO _ 32 zCG zBV (by decide) (by decide) [(0,.agg (kv dg))] (by simp[Act.eval];done) _ (fillD dg Hdk.out) ?_;intro b18 w18 st18 hb18;refine⟨fun wx=>St w.heap.size w ((b18,kv dg,38)::[(b10,kv (bmS ts (j+1)),105),(b9,zAB kd (m:Nat) lf zAH ((.slice av (sbS KK bits ts j).length cv)),43),(b6,zc,43),(b5,kv k,37)]) wx∧Below w14.heap.size w14 wx,fun _ _ h hb=>⟨h.1.call hb,h.2.trans (hb.mono h.2.size)⟩,⟨st18,hb17.trans (hb18.mono hb17.size)⟩,fun _ h=>h.2,fun inv=>?_⟩
    clear st18 hb18 hb17 inv F;refine⟨by kernel_rfl,fun w18 ⟨st18,hb18⟩=>?_⟩;have hown18:=zAY HO14.out hb18;have hrd18:=HR14.out.call hb18;have hM18:=Nat.le_trans hM14 hb18.size;clear st15 HO14 HR14 hM14 hb18 hc9;simp only[List.drop_succ_cons,List.drop_zero,Act.put,List.getElem_toArray,List.getElem_cons_succ,List.getElem_cons_zero,List.setIfInBounds_toArray,List.set_cons_succ,List.set_cons_zero];have hst:=st18.at (i:=0) rfl;have Hdr:Hid (St w.heap.size w [(b10,kv (bmS ts (j+1)),105),(b9,zAB kd (m:Nat) lf zAH ((.slice av (sbS KK bits ts j).length cv)),43),(b6,zc,43),(b5,kv k,37)] w18):=st18.drop;clear st18;have Hlen:=Lib.hid hlen
    go_wp2_with (first
     |(at_builtin;(refine zDX (base:=M) Hdr.out (.slice av (sbS KK bits ts j).length cv) (fun p hp e=>by have h1:=(hown18.lt p.1 e).1;have h2:p.1<M:=(four_lt ⟨by omega,by omega,by omega,by omega⟩ p hp);omega) HM0.out rfl _ _ 41 rfl 38 _ 32 32 zFO zCG zBV bytesDig rfl (by decide) (sbS KK bits ts j).length (zAJ (sbS KK bits ts j).flatten) rfl hown18 b18 1 1 (kv dg) 38 rfl (by rw[zAF,Hdk.out]) hst (zBJ _) (by have:=Hlen.out;unfold maxLen;omega) (by have:=Hlen.out;omega) hM18 ?_);intro v19 w19 st19 hown19 hg19;have hM19:=Nat.le_trans hM18 hg19.size;have hrd19:=hrd18.ne hg19 (fun ad e e2=>by have h1:=(Hsa.out ad e).2;have h2:=(hown18.lt ad.block e2).1;omega);clear Hdr hown18 hM18 hrd18 hst hg19)
     |((with_reducible refine zAN 41 ?_);(refine zAZ st19 rfl 41 _ _ rfl 1 b9 98 rfl v19 rfl _ _ rfl (by rw[(zDO hown19)];exact sizeSlD) (by rw[(zDO hown19),HS1.out _ _ rfl];simp) (by rw[(zDO hown19)];simpa using own_one hown19) _ (proofCells_putSib Hl64.out rfl _ (zDO hown19)) _ rfl ?_);intro w20 st20 hg20;have hown20:=zEQ hown19 hg20 (by omega);have hM20:=Nat.le_trans hM19 hg20.size;have hrd20:=hrd19.ne hg20 (fun ad e=>by have h1:=(Hsa.out ad e).1;intro e2;have h2:=Option.some.inj e2;omega);clear st19 hown19 hM19 hrd19 hg20))
    go_roundw
    case rel =>
     obtain⟨av2,cv2,rfl⟩:=zDN hown20;have e3:(sbS KK bits ts (j+1)).length=(sbS KK bits ts j).length+1:=by rw[He2.out,List.length_append];rfl
     have e4:zAJ (sbS KK bits ts (j+1)).flatten=zAJ (sbS KK bits ts j).flatten++(kv dg).toList:=by
      rw[He2.out,List.flatten_append,zCB,zCJ];simp
     refine⟨j+1,av2,cv2,rfl,hlt,?_,?_,hM20,hrd20⟩
     ·rw[e3];exact st20
     ·rw[e3,e4];exact hown20
    case measure=>simp[intOf];omega
  ·obtain rfl:j=m:=by omega
   have HBj:=Lib.hid (HBk.out j).len;have Hrd:Hid (∀wx,Below wr.heap.size wr wx→True):=fun _ _=>trivial
   have HOwn:=Lib.hid hown;have hsl:=sbS_len KK bits ts j;have HD:=Lib.hid (fun (wx:World) (h:wx.ownsRow M 38 32 (.slice av (sbS KK bits ts j).length cv) (sbS KK bits ts j).length (zAJ (sbS KK bits ts j).flatten))=>RdD.own hsl.2 (by omega) h);clear hown Hrd hsl
   go_wp2_with (first
    |((with_reducible refine zBA 105 ?_);refine zAC rfl 105 _ rfl b10 rfl _ aggBmE.choose_spec.1 aggBmE.choose_spec.2 _ _ (st11.at (i:=0) rfl) (zEO HBj.out) ?_)
    |((with_reducible refine zAN 36 ?_);(refine zAZ st11 rfl 36 _ _ rfl 1 b9 66 rfl (.agg (kv (bmS ts j))) rfl _ _ rfl (by show _=some (kv (bmS ts j)).size;rw[zAF,HBj.out];exact zDH) (by show 66+(kv (bmS ts j)).size≤_;rw[zAF,HBj.out,HS1.out _ _ rfl];decide) (zBJ _) _ (zIH Hl64.out rfl _ HBj.out) _ rfl ?_);intro w12 st12 hg12;have hown12:=zEQ HOwn.out hg12 (by omega);clear st11 hg12)
    |((with_reducible refine zBA 43 ?_);refine zAC rfl 43 _ rfl b9 rfl _ hdP haP _ _ (st12.at (i:=1) rfl) (zAQ (HS1.out _ _ HBj.out)) ?_)
    |((with_reducible refine zAN 43 ?_);(refine zCW st12 rfl 43 _ _ rfl 2 b6 rfl (.agg (zAB kd (j:Nat) lf (bmS ts j) (.slice av (sbS KK bits ts j).length cv))) rfl _ _ rfl (zAQ (HS1.out _ _ HBj.out)) (by show (zAB kd (j:Nat) lf (bmS ts j) (.slice av (sbS KK bits ts j).length cv)).size=_;rw[HS1.out _ _ HBj.out,HS0.out]) (H1.out _ _ _ _ HBj.out) _ rfl ?_);intro w13 st13 hg13;have hown13:=zEQ hown12 hg13 (by omega);clear st12 hown12 hg13))
   exact zBX rfl b6 _ _ _ rfl (st13.at (i:=2) rfl) hdP haP (zAQ (HS1.out _ _ HBj.out)) rfl (HP.out _ _ _ (HD.out _ hown13) st13.below (fun g hg=>⟨Nat.le_trans HM0.out (hown13.lt g hg).1,(hown13.lt g hg).2⟩))
end
end Go.Proofs.YtlcngapphloafaaGreatDoor
