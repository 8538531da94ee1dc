/- Parts of the proof that are used by the claim: TopU, TopU2. No condition is added here. -/
import Derived.Test.YtlcngapphloafaaGreatDoorPk42
import Derived.Test.YtlcngapphloafaaGreatDoorPk33
import Derived.Test.YtlcngapphloafaaGreatDoorPk43
import Derived.Test.YtlcngapphloafaaGreatDoorPk29
namespace Go.Proofs.YtlcngapphloafaaGreatDoor
section
set_option maxHeartbeats 8000000
open Go Go.RowKit
attribute [local irreducible] Inv.wpInv Mix.wpUp zCI
theorem ent_size(k:List Nat)(a:Option Addr)(n c:Nat)(h:k.length=32):(zFS (k,.slice a n c)).toArray.size=33:=zGO (k,.slice a n c) h
theorem ent_part(k:List Nat)(a:Option Addr)(n c:Nat)(h:k.length=32):(zFS (k,.slice a n c)).toArray.extract 0 (0+32)=kv k:=by
 have e:=zHM [] (zAJ k) [.slice a n c] 0 32 rfl (by rw[zAI,h]);rw[List.nil_append] at e;rw[←zBK];exact e
theorem ent_cell(k:List Nat)(a:Option Addr)(n c:Nat)(h:k.length=32):(zFS (k,.slice a n c)).toArray[32]?=some (.slice a n c):=by
 rw[List.getElem?_toArray];unfold zFS;rw[List.getElem?_append_right (by rw[zAI,h];exact Nat.le_refl _),zAI,h];rfl
theorem TRootNN_calls(KK:List Int)(bits:Int)(tb hb:Nat)(t:Tr)(hne:t≠.nil)(p:Option Addr)(w:World)(ht:HasTr tb hb p w)(hr:RepT KK bits w p t) :
  Calls Tryz.prog 21 #[.pointer (some ⟨tb,0,none⟩)] w fun e w'=>e=.returned (.agg (kv (zJL KK bits t)))∧Below w.heap.size w w':=by
 cases t with
 |nil=>exact absurd rfl hne
 |leaf k v=>obtain⟨nb,a,c,rfl,hrow,_⟩:=hr;exact TRoot_calls tb hb nb _ _ (zDL KK bits (.leaf k v)).len _ w ht hrow
 |inner l r=>obtain⟨nb,pl,pr,m,rfl,hrow,_⟩:=hr;exact TRoot_calls tb hb nb _ _ (zDL KK bits (.inner l r)).len _ w ht hrow
theorem insT_ne{es:List Ent}(hD:DistB es 0){k:List Nat}(hk:Key k)(v:List Nat):zJK k v 0 (zCI 257 es 0)≠.nil:=by
 rw[insT_bld hk 256 0 es rfl hD (fun _ _ _ hj=>absurd hj (Nat.not_lt_zero _))];exact bldT_ne (by omega) (by simp) 0
section
variable {bt:Value→List Nat} {bits n:Int} {tb hb cb:Nat} {m:List (List Nat×Value)} {p:Option Addr} {vm:Value} {w w1 w2:World}
theorem GrowS.turnH{L:List (Nat×Array Value×TypeId)}{n':Int}(h:GrowS bt bits tb hb cb n m p w)(st:StH w cb n' L w1):GrowS bt bits tb hb cb n' m p w1 :=
 ⟨h.tr.turn h.hh (StH.grown st),StH.rep st h.hh h.rep,StH.has st h.hh,h.ge.data (DataKept.turn h.hh (StH.grown st)),h.sl,h.dist⟩
theorem root_put(h:GrowS bt bits tb hb cb n m p w){k:List Nat}(hk:Key k)(a:Option Addr)(x y:Nat):rootF bt bits 257 (putE m k (.slice a x y)) 0=zJL zAK bits (zJK k (bt (.slice a x y)) 0 (zCI 257 (zFH bt m) 0)):=by
 rw[ins_tree h.bld hk];exact rootF_bld bt bits 256 0 (putE m k (.slice a x y)) rfl (putE_dist h.dist) (fun e he=>(putE_good h.goodK hk rfl e he).1)
end
theorem THasher_below(tb hb:Nat)(r:Option Addr)(w:World)(ht:HasTr tb hb r w):Calls Tryz.prog 16 #[.pointer (some ⟨tb,0,none⟩)] w fun e w'=>e=.returned (.pointer (some ⟨hb,0,none⟩))∧Below w.heap.size w w' :=
 (zIQ tb hb r w ht).mono fun e w' ⟨h1,h2⟩=>⟨h1,by rw[h2];exact Below.refl _ _⟩
theorem TNode_below(tb hb:Nat)(r:Option Addr)(w:World)(ht:HasTr tb hb r w):Calls Tryz.prog 17 #[.pointer (some ⟨tb,0,none⟩)] w fun e w'=>e=.returned (.pointer r)∧Below w.heap.size w w' :=
 (TNode_calls tb hb r w ht).mono fun e w' ⟨h1,h2⟩=>⟨h1,by rw[h2];exact Below.refl _ _⟩
theorem mxOp_newB{P:Program}{ops:Array Oper}{B:Nat}{w w0:World}{L:List (Nat×Array Value×TypeId)}{a:Act}(st:St B w0 L w){i:Nat}{o:Oper}{K:Act→World→Prop}(hi:ops[i]?=some o)(hw:Region.wanted o (yielded ops a.tmps)=true)(ty:TypeId)(ho:o.op=.alloc ty)(cs:Array Value)(hz:(P.info? ty).bind (·.zero)=some (.agg cs))
  (h:∀b w1,St B w0 ((b,cs,ty)::L) w1→w.heap.size≤b→Below w.heap.size w w1→K (a.put o.dst (.pointer (some ⟨b,0,none⟩))) w1):Mix.mxOp P ops i K a w:=by
 refine Mix.mxOp_go hi hw ?_;unfold Oper.wp execOp
 cases hq:P.info? ty with
 |none=>simp[hq] at hz
 |some i =>
  have hz':i.zero=some (.agg cs):=by simpa[hq] using hz
  simp only[ho,Instr.alloc,zeroValue,typeInfo,run_program,hq,hz',newVar,newRow,Sem.run_bind,run_newObj,Sem.run_pure,Result.andThen_ok,Oper.upon];exact h _ _ (st.new _ ty) (Nat.le_refl _) ((Below.refl _ _).alloc (Nat.le_refl _) _)
theorem key_slice{k:List Nat}{ec:Array Value}{w:World}{b:Nat}{t:TypeId}(hk:k.length=32)(hp:ec.extract 0 (0+32)=kv k)(hr:w.heap[b]?=some (.cells ec t (0,0))):RdB w (.slice (some ⟨b,0,none⟩) 32 32) k:=by
 refine⟨by rw[hk];decide,.inr ⟨b,0,32,by rw[hk],fun i hi=>?_⟩⟩;rw[Nat.zero_add,cell_of_row w b i ec t _ hr];have h:=zFX k i hi;rw[←hp,Array.getElem?_extract] at h;rw[hk] at hi;have h':i<min 32 ec.size∧ec[i]?=some (Value.int IntKind.u8 ((k[i]?.getD 0:Nat):Int)):=by simpa[hi] using h
 simpa using h'.2
theorem dig_cells{l:List Nat}{w:World}{b:Nat}{t:TypeId}(hr:w.heap[b]?=some (.cells (kv l) t (0,0))):CellsAt w b 0 (zAJ l):=fun j v hj=>by
 rw[Nat.zero_add,cell_of_row w b j _ t _ hr,←zBK]
 simpa using hj
theorem cells_data{l:List Nat}{w w':World}{b:Nat}(h:CellsAt w b 0 (zAJ l))(hd:DataKept w w'):CellsAt w' b 0 (zAJ l):=fun j v hj=>hd b _ v (by
 obtain⟨x,_,rfl⟩:=List.mem_map.1 (List.mem_of_getElem? hj);exact trivial) (h j v hj)
theorem rep_way{KK:List Int}{bits:Int}{w:World}{p:Option Addr}{k:List Nat}{t:Tr}{m:Nat}{nd:Nat→Tr}(hr:RepT KK bits w p t)(hW:WayN k t 0 m nd):∀j≤m,∃q,RepT KK bits w q (nd j)
 |0,_=>⟨p,by rw[hW.zero];exact hr⟩
 |j+1,hj=>by
  obtain⟨q,hq⟩:=rep_way hr hW j (by omega);obtain⟨h1,h2⟩:=hW.step j (by omega);rw[h2]
  cases ht:nd j with
  |nil=>rw[ht] at h1;exact absurd h1 (by simp[zBZ])
  |leaf _ _=>rw[ht] at h1;exact absurd h1 (by simp[zBZ])
  |inner l r =>
   rw[ht] at hq;obtain⟨nb,pl,pr,n,_,_,hl,hr'⟩:=hq;unfold zCH
   split
   ·exact⟨pl,hl⟩
   ·exact⟨pr,hr'⟩
theorem sizeIntV:(Tryz.prog.info? 3).map (·.size)=some (Value.int .i64 1).cells.size:=by kernel_rfl
theorem oneIntV:∀u∈(Value.int .i64 1).cells.toList,u.oneCell'=true:=fun u hu=>by
 obtain rfl:u=.int .i64 1:=by simpa[Value.cells] using hu
 rfl
theorem kind_cases(t:Tr)(h:zBZ t≠2):zBZ t=0∨zBZ t=1:=by
 cases t with
 |nil=>exact .inl rfl
 |leaf _ _=>exact .inr rfl
 |inner _ _=>exact absurd rfl h
theorem end_own{KK:List Int}{bits:Int}{w:World}{q:Option Addr}{k:List Nat}{t:Tr}(hr:RepT KK bits w q t)(h:zBZ t=0∨zBZ t=1∧(zFW KK bits t).take 32=k):zBZ t=0∨∃v0,t=.leaf k v0:=by
 rcases h with h | ⟨h1,h2⟩
 ·exact .inl h
 ·cases t with
  |nil=>exact absurd h1 (by simp[zBZ])
  |inner _ _=>exact absurd h1 (by simp[zBZ])
  |leaf k' v0 =>
   obtain⟨_,_,_,_,_,_,hk,_⟩:=hr;have e:(zFW KK bits (.leaf k' v0)).take 32=k':=List.take_left' hk.len;rw[e] at h2;exact .inr ⟨v0,by rw[h2]⟩
theorem sbS_lt(KK:List Int)(bits:Int)(ts:Nat→Tr):∀j,∀x∈(sbS KK bits ts j).flatten,x<256
 |0,x,hx=>by simp[sbS] at hx
 |j+1,x,hx=>by
  unfold sbS at hx
  split at hx
  ·exact sbS_lt KK bits ts j x hx
  ·rw[List.flatten_append] at hx
   rcases List.mem_append.1 hx with hx | hx
   ·exact sbS_lt KK bits ts j x hx
   ·simp only[List.flatten_cons,List.flatten_nil,List.append_nil] at hx
    exact(zDL KK bits (ts j)).lt x hx
set_option maxRecDepth 20000 in
theorem TopU_walk(bt:Value→List Nat)(bits:Int)(v:Value)(k:List Nat)(hk:Key k)(sa:Option Addr)(sn sc:Nat)(w:World)(hs:BtOf w (.slice sa sn sc) (bt (.slice sa sn sc)))
  (hgr:∀wx,Below w.heap.size w wx→Calls Tryz.prog 14 #[.int .i64 bits,v] wx (zGA bt bits wx)) (hK:HasK zAK w) (hg:GotET w) :
  Calls Tryz.prog 5 #[.int .i64 bits,v,.agg (zFS (k,.slice sa sn sc)).toArray] w fun e w'=>e=.returned (.bool true)∧Below w.heap.size w w':=by
 have HR:=Lib.hid (fun wx (hb:Below w.heap.size w wx)=>runs_calls zAK wx (hK.call hb) (hg.call hb));have HGr:=Lib.hid hgr;have HSz:=Lib.hid (ent_size k sa sn sc hk.len);have HPt:=Lib.hid (ent_part k sa sn sc hk.len);have HCl:=Lib.hid (ent_cell k sa sn sc hk.len);have HS:=Lib.hid hs;have Hk:=Lib.hid hk;clear hgr hK hg hs hk;generalize (zFS (k,.slice sa sn sc)).toArray=ec at *;have st:=St.init w;go_enter Tryz.func5,Tryz.ntmps5;go_upto_region 1 with (first
  |(refine zAD st rfl 52 _ rfl _ rfl ?_;intro b5 w1 st1;clear st))
 have Hrow1:=Lib.hid (st1.at (i:=0) rfl);have Hb1:=Lib.hid st1.below;have Hb5:Hid (b5<w1.heap.size):=zAG (st1.at (i:=0) rfl);clear st1;go_upto_region 2 with (first
  |(go_at_call 14;refine(HGr.out _ Hb1.out).mono ?_;rintro e w2 ⟨tp,vm,b,rfl,hb2,himp⟩;have Hb12:=Lib.hid (Hb1.out.trans (hb2.mono Hb1.out.size));have Hrow2:=Lib.hid ((hb2.block b5 Hb5.out).trans Hrow1.out);have Himp:=Lib.hid himp;have Hs12:=Lib.hid hb2.size;clear hb2 himp))
 have hc2:w2.cell? ⟨b5,32,none⟩=some (.slice sa sn sc):=by rw[cell_of_row w2 b5 32 ec _ _ Hrow2.out];exact HCl.out
 cases b
 ·go_wp2_with (first
   |(go_at_call 8;refine(HR.out _ Hb12.out).mono ?_;rintro e w3 ⟨rfl,hb3⟩))
  go_ret;exact⟨rfl,Hb12.out.trans (hb3.mono Hb12.out.size)⟩
 ·obtain⟨hB,tb,hb,cb,n,m,p,rfl,htb,hcb,D,hn4,hm3⟩:=Himp.out rfl
  by_cases h200:sn≤200
  ·have h200i:((sn:Nat):Int)≤200:=by omega
   have HD:=Lib.hid D;have Hst:Hid (w.heap.size≤tb∧w.heap.size≤cb∧b5<cb∧b5<tb):=⟨Nat.le_trans Hb1.out.size htb,Nat.le_trans Hb1.out.size hcb,Nat.lt_of_lt_of_le Hb5.out hcb,Nat.lt_of_lt_of_le Hb5.out htb⟩
   have Hn4:=Lib.hid hn4;have Hm3:=Lib.hid hm3;have HBb:=Lib.hid hB;clear D hn4 hm3 hB htb hcb Himp Hb1 Hrow1 Hs12 Hb5 HGr;obtain⟨mm,nd,hW⟩:=way_ex k (zCI 257 (zFH bt m) 0) 0 (by omega) (HD.out.g.way Hk.out);have hmm:mm≤256:=by have:=hW.le;omega
   obtain⟨q7,hq7⟩:=rep_way HD.out.g.rep hW mm (Nat.le_refl _);obtain⟨ts,hts⟩:∃ts:Nat→Tr,ts=fun i=>zCH (nd i) (1 - zDQ k (i:Nat)):=⟨_,rfl⟩
   have HPv:Hid (∀(wx:World),Below w2.heap.size w2 wx→Calls Tryz.prog 15 #[.pointer (some ⟨hb,0,none⟩),.pointer p,.agg (kv k)] wx fun e w'=>∃av cv,e=.returned (.agg (zAB (zBZ (nd mm)) (mm:Nat) (zFW zAK bits (nd mm)) (bmS ts mm) (.slice av (sbS zAK bits ts mm).length cv)))∧RdD w' (.slice av (sbS zAK bits ts mm).length cv) (sbS zAK bits ts mm).length (sbS zAK bits ts mm).flatten∧Below wx.heap.size wx w'∧(∀g,(Value.slice av (sbS zAK bits ts mm).length cv).ownBlock=some g→wx.heap.size≤g∧g<w'.heap.size)):=fun wx h=>by
    have:=ProveU_calls zAK bits (.pointer (some ⟨hb,0,none⟩)) k Hk.out _ p wx (HD.out.g.rep.call h) mm nd hW;rw[hts];exact this
   have hlf:(zFW zAK bits (nd mm)).length=64:=zJC hq7;have hkd:(zBZ (nd mm)=0∨zBZ (nd mm)=1∧(zFW zAK bits (nd mm)).take 32=k)∨(zBZ (nd mm)=1∧(zFW zAK bits (nd mm)).take 32≠k):=by
    by_cases h:(zFW zAK bits (nd mm)).take 32=k
    ·rcases kind_cases (nd mm) hW.last with h1 | h1
     ·exact .inl (.inl h1)
     ·exact .inl (.inr ⟨h1,h⟩)
    ·rcases kind_cases (nd mm) hW.last with h1 | h1
     ·exact .inl (.inl h1)
     ·exact .inr ⟨h1,h⟩
   have hfin:(zBZ (nd mm)=0∨zBZ (nd mm)=1∧(zFW zAK bits (nd mm)).take 32=k)→zGV 1 (mm:Nat) (k++zBE zAK bits (2::bt (.slice sa sn sc))) (bmS ts mm) (sbS zAK bits ts mm).length=0∧belF zAK bits (endF 1 (k++zBE zAK bits (2::bt (.slice sa sn sc)))) k (expF (zBE zAK bits [3]) mm (setB (bmS ts mm)) (sbS zAK bits ts mm).flatten) mm mm=zJL zAK bits (zJK k (bt (.slice sa sn sc)) 0 (zCI 257 (zFH bt m) 0)):=fun h =>
    proof_ins zAK bits Hk.out _ _ HD.out.g.bld mm nd hW (end_own hq7 h) ts hts
   have hbm:Key (bmS ts mm):=bmS_key ts mm;have hsb:∀x∈(sbS zAK bits ts mm).flatten,x<256:=sbS_lt zAK bits ts mm;have Hfin:=Lib.hid hfin;have Hbm:=Lib.hid hbm;have Hsb:=Lib.hid hsb;have Hlf:=Lib.hid hlf;have Hkd:=Lib.hid hkd;clear hW hts hq7 hlf hkd hfin hbm hsb;generalize zBZ (nd mm)=kd at *;generalize zFW zAK bits (nd mm)=lf at *;generalize bmS ts mm=bm at *;generalize (sbS zAK bits ts mm).flatten=sib at *;generalize (sbS zAK bits ts mm).length=nS at *;go_upto_region 4 with (first | (fail "x"))
   have st2:=St.init w2;obtain⟨pz,hpz⟩:∃pz,pz=zAB 0 0 (List.replicate 64 0) zAH (.slice none 0 0):=⟨_,rfl⟩
   have hzp:=zeroProof;rw[←hpz] at hzp;have Hpz:Hid (pz.size=99):=by unfold Hid;rw[hpz];exact zAO zCZ rfl
   clear hpz;refine Mix2.wp_region_mix (J:=fun wx=>St w2.heap.size w2 [] wx) 8 (fun wx=>St w2.heap.size w2 [] wx) zBL (by kernel_rfl) st2.drew ?_;intro F inv;refine Mix2.good_batch (f:=2) F St.up (fun _ h=>h) [0,1,2,3,4,5] _ _ inv (by kernel_rfl) ?_;clear inv st2
   iterate 1
    (refine Mix.wpUp_cons rfl (fun K hK=>?_);go_simp;apply zAU;· (intro wx hw;go_simp;(try go_ints);(try go_simp);(try (rw[if_pos (by omega)]));(try go_simp);(first | done | rfl))
     refine hK _ ?_;clear hK K)
   (refine Mix.wpUp_cons rfl (fun K hK=>?_);go_simp;refine zER 16 #[.pointer (some ⟨tb,0,none⟩)] ?_ (fun wx stx=>(THasher_below tb hb p wx (HD.out.g.tr.call stx.below))) ?_;· (intro wx hw;go_simp)
    refine hK _ ?_;clear hK K)
   iterate 1
    (refine Mix.wpUp_cons rfl (fun K hK=>?_);go_simp;apply zAU;· (intro wx hw;go_simp;(try go_ints);(try go_simp);(try (rw[if_pos (by omega)]));(try go_simp);(first | done | rfl))
     refine hK _ ?_;clear hK K)
   (refine Mix.wpUp_cons rfl (fun K hK=>?_);go_simp;refine zER 17 #[.pointer (some ⟨tb,0,none⟩)] ?_ (fun wx stx=>(TNode_below tb hb p wx (HD.out.g.tr.call stx.below))) ?_;· (intro wx hw;go_simp)
    refine hK _ ?_;clear hK K)
   iterate 1
    (refine Mix.wpUp_cons rfl (fun K hK=>?_);go_simp;apply zAU;· (intro wx hw;go_simp;(try go_ints);(try go_simp);(try (rw[if_pos (by omega)]));(try go_simp);(first | done | rfl))
     refine hK _ ?_;clear hK K)
   (refine Mix.wpUp_cons rfl (fun K hK=>?_);go_simp;refine zHS 37 _ rfl b5 0 32 rfl zBN _ _ (fun wx hw=>(hw.below.block b5 (zAG Hrow2.out)).trans Hrow2.out) zBC (by rw[HSz.out];decide) _ HPt.out ?_
    refine hK _ ?_;clear hK K)
   refine Mix.wpUp_nil ?_;intro inv;refine Mix2.good_two (i:=6) (k:=7) (f:=1) (by kernel_rfl) inv (fun w6 st6=>?o1) (fun w6 st6=>?o2)
   case' o1 =>
    clear inv;refine zAT rfl rfl 15 #[.pointer (some ⟨hb,0,none⟩),.pointer p,.agg (kv k)] (by go_simp) ?_;refine(HPv.out _ st6.below).mono ?_;rintro e w7 ⟨av,cv,rfl,hrd,hb7,hfr⟩;refine⟨_,rfl,fun wx=>St w2.heap.size w2 [] wx∧RdD wx (.slice av nS cv) nS sib∧w7.heap.size≤wx.heap.size,fun _ _ h hb=>⟨h.1.call hb,h.2.1.call hb,Nat.le_trans h.2.2 hb.size⟩,⟨st6.call hb7,hrd,Nat.le_refl _⟩,fun _ h=>h.1,fun inv=>?_⟩;clear st6 hrd hb7;refine Mix2.good_one (i:=7) (f:=0) (by kernel_rfl) inv (fun w7' st7'=>?_);clear inv;refine mxOp_newB st7'.1 rfl rfl 43 rfl _ hzp (fun b10 w8 st8 hge hb8=>?_);have Hne:Hid ((Value.slice av nS cv).ownBlock≠some b10):=fun e=>by
     have h1:=(hfr b10 e).2;have h2:=st7'.2.2;omega
    refine⟨fun wx=>St w2.heap.size w2 [(b10,pz,43)] wx∧RdD wx (.slice av nS cv) nS sib,fun _ _ h hb=>⟨h.1.call hb,h.2.call hb⟩,⟨st8,st7'.2.1.call hb8⟩,fun _ h=>h.1.drop,fun inv=>?_⟩;clear st8 st7' hb8 hge hfr inv F
   case' o2 =>
    clear inv;refine mxOp_newB st6 rfl rfl 43 rfl _ hzp (fun b10 w7 st7 hge hb7=>?_);refine⟨fun wx=>St w2.heap.size w2 [(b10,pz,43)] wx,St.up,st7,fun _ h=>h.drop,fun inv=>?_⟩;clear st6 st7 hge hb7;refine Mix2.good_one (i:=6) (f:=0) (by kernel_rfl) inv (fun w7' st7'=>?_);clear inv;refine zAT rfl rfl 15 #[.pointer (some ⟨hb,0,none⟩),.pointer p,.agg (kv k)] (by go_simp) ?_;refine(HPv.out _ st7'.below).mono ?_;rintro e w8 ⟨av,cv,rfl,hrd,hb8,hfr⟩;have Hne:Hid ((Value.slice av nS cv).ownBlock≠some b10):=fun e=>by
     have h1:=(hfr b10 e).1;have h2:=zAG (st7'.at (i:=0) rfl);omega
    refine⟨_,rfl,fun wx=>St w2.heap.size w2 [(b10,pz,43)] wx∧RdD wx (.slice av nS cv) nS sib,fun _ _ h hb=>⟨h.1.call hb,h.2.call hb⟩,⟨st7'.call hb8,hrd⟩,fun _ h=>h.1.drop,fun inv=>?_⟩;clear st7' hrd hb8 hfr inv F
   all_goals (
    refine⟨by kernel_rfl,fun w8 ⟨st8,hrd8⟩=>?_⟩;simp only[List.drop_succ_cons,List.drop_zero,Act.put,List.getElem_toArray,List.getElem_cons_succ,List.getElem_cons_zero,List.setIfInBounds_toArray,List.set_cons_succ,List.set_cons_zero];have HPs:Hid ((zAB kd (mm:Nat) lf bm (.slice av nS cv)).size=99):=zAO Hlf.out Hbm.out.len;have HPk:Hid ((zAB kd (mm:Nat) lf bm (.slice av nS cv))[0]?=some (.int .i64 kd)):=rfl;go_upto_region 5 with (first
     |((with_reducible refine zAN 43 ?_);refine zCW st8 rfl 43 _ _ rfl 0 b10 rfl (.agg (zAB kd (mm:Nat) lf bm (.slice av nS cv))) rfl _ _ rfl (zAQ HPs.out) (by show (zAB _ _ _ _ _).size=_;rw[HPs.out,Hpz.out]) (zDI rfl) [(b10,zAB kd (mm:Nat) lf bm (.slice av nS cv),43)] rfl ?_;intro w10 st10 hg10;have hrd10:=hrd8.turnNe hg10 Hne.out;clear st8 hrd8 hg10))
    have hck:w10.cell? ⟨b10,0,none⟩=some (.int .i64 kd):=(cell_of_row w10 b10 0 _ _ _ (st10.at (i:=0) rfl)).trans HPk.out;have Hrow10:=Lib.hid ((st10.below.block b5 (zAG Hrow2.out)).trans Hrow2.out);have hcs:w10.cell? ⟨b5,32,none⟩=some (.slice sa sn sc):=by rw[cell_of_row w10 b5 32 ec _ _ Hrow10.out];exact HCl.out
    have hgk:=zIP;have hq:=eqlKey (lf.take 32) k (by rw[List.length_take,Hlf.out];rfl) Hk.out.len;rcases Hkd.out with hAB | ⟨hkd1,hne⟩
    rotate_left
    ·rw[decide_eq_false hne] at hq
     rw[hkd1] at hck;have Hb110:=Lib.hid (Hb12.out.trans (st10.below.mono Hb12.out.size))
     go_wp2_with (first
      |((with_reducible refine zBA 37 ?_);first | (refine zAP rfl 37 _ rfl b10 2 32 rfl zBN _ _ _ (st10.at (i:=0) rfl) zBC (by rw[HPs.out];decide) _ (zFQ Hlf.out) ?_) | (refine zAP rfl 37 _ rfl b5 0 32 rfl zBN _ _ _ Hrow10.out zBC (by rw[HSz.out];decide) _ HPt.out ?_))
      |(go_at_call 8;refine(HR.out _ Hb110.out).mono ?_;rintro e w11 ⟨rfl,hb11⟩))
     go_ret;exact⟨rfl,Hb110.out.trans (hb11.mono Hb110.out.size)⟩
    obtain⟨hck0,hbel⟩:=Hfin.out hAB;have HLf:Hid (∀wx,Below w2.heap.size w2 wx→Calls Tryz.prog 18 #[.int .i64 bits,.agg (kv k),.slice sa sn sc] wx fun e w'=>e=.returned (.agg (kv (k++zBE zAK bits (2::bt (.slice sa sn sc)))))∧Below wx.heap.size wx w'):=fun wx h =>
     LeafOfR_calls bits HBb.out.2 k _ _ wx Hk.out.len HS.out.2.1 (by have:=HS.out.len;omega) (HS.out.1.call (Hb12.out.trans (h.mono Hb12.out.size)))
    have Hl2:Hid ((k++zBE zAK bits (2::bt (.slice sa sn sc))).length=64∧∀x∈k++zBE zAK bits (2::bt (.slice sa sn sc)),x<256):=⟨by rw[List.length_append,Hk.out.len,(zBG _ _ _).len],fun x hx=>by
     rcases List.mem_append.1 hx with hx | hx
     ·exact Hk.out.lt x hx
     ·exact(zBG zAK bits (2::bt (.slice sa sn sc))).lt x hx⟩
    have Hck0:=Lib.hid hck0;have Hbel:=Lib.hid hbel;clear hck0 hbel;generalize k++zBE zAK bits (2::bt (.slice sa sn sc))=lf2 at *;rcases hAB with hk0 | ⟨hk1,heq⟩
    case' inl =>
     rw[hk0] at hck;clear hk0
    case' inr =>
     rw[hk1] at hck;rw[decide_eq_true heq] at hq;clear hk1 heq
    all_goals (
     go_upto_region 8 with (first
      |((with_reducible refine zBA 37 ?_);first | (refine zAP rfl 37 _ rfl b10 2 32 rfl zBN _ _ _ (st10.at (i:=0) rfl) zBC (by rw[HPs.out];decide) _ (zFQ Hlf.out) ?_) | (refine zAP rfl 37 _ rfl b5 0 32 rfl zBN _ _ _ Hrow10.out zBC (by rw[HSz.out];decide) _ HPt.out ?_))
      |(go_at_call 18;(refine(HLf.out _ st10.below).mono ?_);rintro e w11 ⟨rfl,hb11⟩;have st11:=st10.call hb11;have hrd11:=hrd10.call hb11;clear st10 hrd10 hck hcs hq)
      |((with_reducible refine zAN 3 ?_);(refine zAZ st11 rfl 3 _ _ rfl 0 b10 0 rfl (.int .i64 1) rfl _ _ rfl sizeIntV (by show 0+1≤_;rw[HPs.out];decide) oneIntV _ (zHC 1) _ rfl ?_);intro w12 st12 hg12;have hrd12:=hrd11.turnNe hg12 Hne.out;clear st11 hrd11 hg12)
      |((with_reducible refine zAN 40 ?_);(refine zAZ st12 rfl 40 _ _ rfl 0 b10 2 rfl (.agg (kv lf2)) rfl _ _ rfl (zHJ Hl2.out.1) (by show 2+(kv lf2).size≤_;rw[zAF,Hl2.out.1,zAO Hlf.out Hbm.out.len];decide) (zBJ _) _ (proofCells_putLeaf Hlf.out lf2 Hl2.out.1) _ rfl ?_);intro w13 st13 hg13;have hrd13:=hrd12.turnNe hg13 Hne.out;clear st12 hrd12 hg13))
     have Hpr:=Lib.hid (st13.at (i:=0) rfl);have HD13:=Lib.hid (HD.out.call st13.below);have Hrow13:=Lib.hid ((st13.below.block b5 (zAG Hrow2.out)).trans Hrow2.out);have Hrd13:=Lib.hid hrd13;have Hb113:=Lib.hid (Hb12.out.trans (st13.below.mono Hb12.out.size));have Hb10:Hid (b10≠cb):=by
      have h1:=st13.fresh (i:=0) rfl;have h2:=zAG HD.out.g.hh.c;unfold Hid;omega
     clear st13 hrd13 Hrow10 HLf;have HPs2:Hid ((zAB 1 (mm:Nat) lf2 bm (.slice av nS cv)).size=99):=zAO Hl2.out.1 Hbm.out.len;have HRoot:Hid (∀wx L,StH w13 cb n L wx→Calls Tryz.prog 19 #[.pointer (some ⟨hb,0,none⟩),.agg (zAB 1 (mm:Nat) lf2 bm (.slice av nS cv)),.agg (kv k)] wx fun e w'=>e=.returned (.tuple #[.agg (kv (zJL zAK bits (zJK k (bt (.slice sa sn sc)) 0 (zCI 257 (zFH bt m) 0)))),.int .i64 0])∧wx.grownBy w' (some cb)∧HasH hb cb bits (n+2+mm) w'):=fun wx L st=>by
      have:=Root_calls zAK 1 mm lf2 bm sib k av nS cv Hl2.out.1 Hl2.out.2 Hbm.out Hk.out Hsb.out Hck0.out hb cb bits n wx (StH.has st HD13.out.g.hh) HBb.out ⟨by have:=HD13.out.n.1;omega,by have:=Hn4.out;omega⟩ (StH.hasK st HD13.out.g.hh HD13.out.K) (Hrd13.out.turn HD13.out.g.hh.c (StH.grown st))
      rwa [Hbel.out] at this
     have HTr:Hid (∀(p':Option Addr)(wx:World),HasTr tb hb p' wx→RepT zAK bits wx p' (zJK k (bt (.slice sa sn sc)) 0 (zCI 257 (zFH bt m) 0))→Calls Tryz.prog 21 #[.pointer (some ⟨tb,0,none⟩)] wx fun e w'=>e=.returned (.agg (kv (zJL zAK bits (zJK k (bt (.slice sa sn sc)) 0 (zCI 257 (zFH bt m) 0)))))∧Below wx.heap.size wx w'):=fun p' wx h1 h2=>TRootNN_calls zAK bits tb hb _ (insT_ne HD13.out.g.bld Hk.out _) p' wx h1 h2
     have HRf:=Lib.hid (root_put HD13.out.g Hk.out sa sn sc);have HDk:=Lib.hid (zDL zAK bits (zJK k (bt (.slice sa sn sc)) 0 (zCI 257 (zFH bt m) 0)));have HPut:Hid (∀wx vk,DoIn bt bits tb hb cb (n+2+mm) m p vm wx→BtOf wx (.slice sa sn sc) (bt (.slice sa sn sc))→RdB wx vk k→Calls Tryz.prog 20 #[.pointer (some ⟨tb,0,none⟩),vk,.slice sa sn sc] wx (TrPost zAK bits tb hb cb (n+2+mm) 2000 (zJK k (bt (.slice sa sn sc)) 0 (zCI 257 (zFH bt m) 0)) .nilIface wx)):=fun wx vk D hv hvk=>by
      have hvl:=hv.len
      have:=TPutT_calls zAK tb k (bt (.slice sa sn sc)) (zCI 257 (zFH bt m) 0) p vk sa sc hb cb bits (n+2+mm) wx D.g.tr D.g.hh D.B ⟨D.n.1,by have:=D.n.2;omega⟩ Hk.out hv.2.1 (by omega) hvk (by rw[←hvl];exact hv.1) D.K D.g.rep (D.g.way Hk.out)
      rwa [←hvl] at this
     have HGp:Hid (∀(w1 w2:World)(p':Option Addr) (n':Int),DoIn bt bits tb hb cb (n+2+mm) m p vm w1→BtOf w1 (.slice sa sn sc) (bt (.slice sa sn sc))→HasTr tb hb p' w2→RepT zAK bits w2 p' (zJK k (bt (.slice sa sn sc)) 0 (zCI 257 (zFH bt m) 0))→HasH hb cb bits n' w2→DataKept w1 w2→GrowS bt bits tb hb cb n' (putE m k (.slice sa sn sc)) p' w2):=fun w1 w2 p' n' D hv h1 h2 h3 h4 =>
      D.g.put Hk.out ⟨hv.1,hv.2.1,by have:=hv.len;omega⟩ h1 h2 h3 h4
     have Hhas:Hid (∀wx,(∃m',StH w13 cb m' [] wx)→HasTr tb hb p wx):=fun wx ⟨_,h⟩=>HD13.out.g.tr.turn HD13.out.g.hh (StH.grown h)
     have Hr10:Hid (∀wx,(∃m',StH w13 cb m' [] wx)→wx.heap[b10]?=some (.cells (zAB 1 (mm:Nat) lf2 bm (.slice av nS cv)) 43 (0,0))):=fun wx ⟨_,h⟩=>((StH.grown h).block b10 (zAG Hpr.out) (fun e=>by have h1:=Hb10.out;have h3:=Option.some.inj e;omega)).trans Hpr.out
     have Hr5:Hid (∀wx m' L,StH w13 cb m' L wx→wx.heap[b5]?=some (.cells ec 52 (0,0))):=fun wx m' L h=>((StH.grown h).block b5 (zAG Hrow13.out) (fun e=>by have h1:=Hst.out.2.2.1;have h3:=Option.some.inj e;omega)).trans Hrow13.out
     obtain⟨dP,hdP,haP⟩:=zGE;clear Hbel Hck0 hgk;generalize zJK k (bt (.slice sa sn sc)) 0 (zCI 257 (zFH bt m) 0)=T1 at *;generalize zJL zAK bits T1=Dg at *;have st0:=StH.init HD13.out.g.hh (St.init w13);refine Mix2.wp_region_mix (J:=fun wx=>∃m',StH w13 cb m' [] wx) 12 (fun wx=>StH w13 cb n [] wx) zBL (by kernel_rfl) st0.drew ?_;intro F inv;refine Mix2.good_batch (f:=7) F St.up (fun _ h=>⟨_,h⟩) [0,1,2,3,4] _ _ inv (by kernel_rfl) ?_;clear inv st0
     iterate 1
      (refine Mix.wpUp_cons rfl (fun K hK=>?_);go_simp;apply zAU;· (intro wx hw;go_simp;(try go_ints);(try go_simp);(try (rw[if_pos (by omega)]));(try go_simp);(first | done | rfl))
       refine hK _ ?_;clear hK K)
     (refine Mix.wpUp_cons rfl (fun K hK=>?_);go_simp;refine zER 16 #[.pointer (some ⟨tb,0,none⟩)] ?_ (fun wx stx=>(THasher_below tb hb p wx (Hhas.out wx stx))) ?_;· (intro wx hw;go_simp)
      refine hK _ ?_;clear hK K)
     (refine Mix.wpUp_cons rfl (fun K hK=>?_);go_simp;refine zFB 43 _ rfl b10 rfl _ hdP haP _ _ (fun wx hw=>Hr10.out wx hw) (zAQ HPs2.out) ?_
      refine hK _ ?_;clear hK K)
     iterate 1
      (refine Mix.wpUp_cons rfl (fun K hK=>?_);go_simp;apply zAU;· (intro wx hw;go_simp;(try go_ints);(try go_simp);(try (rw[if_pos (by omega)]));(try go_simp);(first | done | rfl))
       refine hK _ ?_;clear hK K)
     (refine Mix.wpUp_cons rfl (fun K hK=>?_);go_simp;refine zHS 37 _ rfl b5 0 32 rfl zBN _ _ (fun wx hw=>Hr5.out wx _ _ hw.choose_spec) zBC (by rw[HSz.out];decide) _ HPt.out ?_
      refine hK _ ?_;clear hK K)
     refine Mix.wpUp_nil ?_;intro inv;refine Mix2.good_two (i:=5) (k:=9) (f:=6) (by kernel_rfl) inv (fun w6 st6=>?_) (fun w6 st6=>?_)
     all_goals first
      |(
       clear inv;refine zAT rfl rfl 19 #[.pointer (some ⟨hb,0,none⟩),.agg (zAB 1 (mm:Nat) lf2 bm (.slice av nS cv)),.agg (kv k)] (by go_simp) ?_;refine(HRoot.out _ _ st6).mono ?_;rintro e w7 ⟨rfl,hg,hh7⟩;refine⟨_,rfl,fun wx=>StH w13 cb (n+2+mm) [] wx,St.up,StH.sum st6 HD13.out.g.hh hg hh7,fun _ h=>⟨_,h⟩,fun inv=>?_⟩;clear st6 hg hh7;refine Mix2.good_batch (f:=3) F St.up (fun _ h=>⟨_,h⟩) [6,7,8] _ _ inv (by kernel_rfl) ?_;clear inv
       iterate 3
        (refine Mix.wpUp_cons rfl (fun K hK=>?_);go_simp;apply zAU;· (intro wx hw;go_simp;(try go_ints);(try go_simp);(try (rw[if_pos (by omega)]));(try go_simp);(first | done | rfl))
         refine hK _ ?_;clear hK K)
       refine Mix.wpUp_nil ?_;intro inv;refine Mix2.good_one (i:=9) (f:=2) (by kernel_rfl) inv (fun w8 st8=>?_);clear inv;refine mxOp_newA st8 rfl rfl 38 rfl _ zCG (fun b11 w9 st9=>?_);refine⟨fun wx=>StH w13 cb (n+2+mm) [(b11,kv zAH,38)] wx,St.up,st9,fun _ h=>⟨_,h.drop⟩,fun inv=>?_⟩;clear st8 st9)
      |(
       clear inv;refine mxOp_newA st6 rfl rfl 38 rfl _ zCG (fun b11 w7 st7=>?_);refine⟨fun wx=>StH w13 cb n [(b11,kv zAH,38)] wx,St.up,st7,fun _ h=>⟨_,h.drop⟩,fun inv=>?_⟩;clear st6 st7;refine Mix2.good_one (i:=5) (f:=5) (by kernel_rfl) inv (fun w8 st8=>?_);clear inv;refine zAT rfl rfl 19 #[.pointer (some ⟨hb,0,none⟩),.agg (zAB 1 (mm:Nat) lf2 bm (.slice av nS cv)),.agg (kv k)] (by go_simp) ?_;refine(HRoot.out _ _ st8).mono ?_;rintro e w9 ⟨rfl,hg,hh9⟩;refine⟨_,rfl,fun wx=>StH w13 cb (n+2+mm) [(b11,kv zAH,38)] wx,St.up,StH.sum st8 HD13.out.g.hh hg hh9,fun _ h=>⟨_,h.drop⟩,fun inv=>?_⟩;clear st8 hg hh9;refine Mix2.good_batch (f:=2) F St.up (fun _ h=>⟨_,h.drop⟩) [6,7,8] _ _ inv (by kernel_rfl) ?_;clear inv
       iterate 3
        (refine Mix.wpUp_cons rfl (fun K hK=>?_);go_simp;apply zAU;· (intro wx hw;go_simp;(try go_ints);(try go_simp);(try (rw[if_pos (by omega)]));(try go_simp);(first | done | rfl))
         refine hK _ ?_;clear hK K)
       refine Mix.wpUp_nil ?_;intro inv)
     all_goals (
      refine Mix2.good_one (i:=10) (f:=1) (by kernel_rfl) inv (fun w10' st10'=>?_);clear inv;refine mxOp_storeR st10' rfl rfl 38 _ _ rfl 0 b11 rfl (.agg (kv Dg)) rfl _ _ rfl (zCA HDk.out.len) (by show (kv Dg).size=_;rw[zAF,HDk.out.len,zAF];rfl) (zBJ _) [(b11,kv Dg,38)] rfl (fun w11 st11=>?_);refine⟨fun wx=>StH w13 cb (n+2+mm) [(b11,kv Dg,38)] wx,St.up,st11,fun _ h=>⟨_,h.drop⟩,fun inv=>?_⟩;clear st10' st11;refine Mix2.good_batch (f:=0) F St.up (fun _ h=>⟨_,h.drop⟩) [11] _ _ inv (by kernel_rfl) ?_;clear inv
      iterate 1
       (refine Mix.wpUp_cons rfl (fun K hK=>?_);go_simp;apply zAU;· (intro wx hw;go_simp;(try go_ints);(try go_simp);(try (rw[if_pos (by omega)]));(try go_simp);(first | done | rfl))
        refine hK _ ?_;clear hK K)
      refine Mix.wpUp_nil ?_;intro inv;clear inv F;refine⟨by kernel_rfl,fun w14 st14=>?_⟩;simp only[List.drop_succ_cons,List.drop_zero];go_upto_region 9 with (first | (fail "x"))
      have Hg14:=Lib.hid (StH.grown st14);have Hb114:Hid (Below w.heap.size w w14):=Hb113.out.trans (zCY Hg14.out (zAG HD13.out.g.hh.c) Hst.out.2.1);have HD14:Hid (DoIn bt bits tb hb cb (n+2+mm) m p vm w14):=⟨HD13.out.g.turnH st14,RdEs.data HD13.out.g.sl HD13.out.rd (DataKept.turn HD13.out.g.hh Hg14.out),StH.hasK st14 HD13.out.g.hh HD13.out.K,(World.cell?_of_block (w:=w13) (Hg14.out.block 0 (block_lt_of_cell HD13.out.et) (fun e=>by have h1:=Hst.out.2.2.1;have h3:=Option.some.inj e;omega))).trans HD13.out.et,HBb.out,⟨by have:=HD13.out.n.1;omega,by have:=Hn4.out;omega⟩,HD13.out.m⟩
      have Hrow14:=Lib.hid (Hr5.out _ _ _ st14);have Hr11:=Lib.hid (st14.at (i:=0) rfl);have HS14:=Lib.hid (HS.out.call Hb114.out);clear st14 Hg14 Hr5 Hr10 Hhas HRoot HD13 Hrow13 Hrd13 Hb113 Hpr Hb10;have st15:=St.init w14;have q:∀wx,St w14.heap.size w14 [] wx→wx.cell? ⟨b5,32,none⟩=some (.slice sa sn sc):=fun wx hw=>by
       rw[cell_of_row wx b5 32 ec _ _ ((hw.below.block b5 (zAG Hrow14.out)).trans Hrow14.out)];exact HCl.out
      refine Mix.wp_region_mix 5 (St w14.heap.size w14 []) zBL (by kernel_rfl) st15.drew ?_;intro F inv;refine Mix.good_batch (f:=0) F St.up [0,1,2,3,4] _ _ inv (by kernel_rfl) ?_;clear inv st15
      iterate 5
       (refine Mix.wpUp_cons rfl (fun K hK=>?_);go_simp;apply zAU;· (intro wx hw;have q1:=q wx hw;go_simp;(try go_ints);(try go_simp);(try (rw[if_pos (by omega)]));(try go_simp);(first | done | rfl))
        refine hK _ ?_;clear hK K)
      refine Mix.wpUp_nil ?_;intro inv;clear inv F q;refine⟨by kernel_rfl,fun w15 st15=>?_⟩;simp only[List.drop_succ_cons,List.drop_zero];have HD15:=Lib.hid (HD14.out.call st15.below);have HS15:=Lib.hid (HS14.out.call st15.below);have Hrow15:=Lib.hid ((st15.below.block b5 (zAG Hrow14.out)).trans Hrow14.out);have Hr15:=Lib.hid ((st15.below.block b11 (zAG Hr11.out)).trans Hr11.out);have Hb115:=Lib.hid (Hb114.out.trans (st15.below.mono Hb114.out.size));clear st15 HD14 HS14 Hrow14 Hr11 Hb114;have Hks:=Lib.hid (key_slice Hk.out.len HPt.out Hrow15.out);go_upto_region 11 with (first
       |(go_at_call 20;refine(HPut.out _ _ HD15.out HS15.out Hks.out).mono ?_;rintro e w16 ⟨p16,n16,rfl,ht16,hr16,hh16,ha16,hz16,hd16,hs16,hB16⟩))
      have HG16:=Lib.hid (HGp.out _ _ _ _ HD15.out HS15.out ht16 hr16 hh16 hd16);have Hrd16:Hid (RdEs w16 vm m):=RdEs.data HD15.out.g.sl HD15.out.rd hd16;have Hrow16:Hid (w16.heap[b5]?=some (.cells ec 52 (0,0))):=((hB16 (b5+1) Hst.out.2.2.2 Hst.out.2.2.1).block b5 (Nat.lt_succ_self _)).trans Hrow15.out;have Hdg16:=Lib.hid (cells_data (dig_cells Hr15.out) hd16);have Hb116:Hid (Below w.heap.size w w16):=Hb115.out.trans (hB16 w.heap.size Hst.out.1 Hst.out.2.1);have HTr16:Hid (∀wx,Below w16.heap.size w16 wx→Calls Tryz.prog 21 #[.pointer (some ⟨tb,0,none⟩)] wx fun e w'=>e=.returned (.agg (kv Dg))∧Below wx.heap.size wx w'):=fun wx h=>HTr.out p16 wx (ht16.call h) (hr16.call h)
      have HPr16:Hid (∀wx,Below w16.heap.size w16 wx→Calls Tryz.prog 23 #[vm,.agg (kv k),.slice sa sn sc] wx fun e w'=>∃v',e=.returned v'∧RdEs w' v' (putE m k (.slice sa sn sc))∧Below wx.heap.size wx w'):=fun wx h=>PutR_es m vm k sa sn sc wx Hk.out HD15.out.g.goodK (by have:=Hm3.out;omega) (Hrd16.out.call h)
      have HRr16:Hid (∀v' wx,Below w16.heap.size w16 wx→RdEs wx v' (putE m k (.slice sa sn sc))→Calls Tryz.prog 22 #[.int .i64 bits,v',.int .i64 0] wx fun e w'=>e=.returned (.agg (kv Dg))∧Below wx.heap.size wx w'):=fun v' wx h hrd=>by
       have:=Root_calls' bt bits HBb.out.2 256 0 (putE m k (.slice sa sn sc)) v' wx rfl HG16.out.dist (by have:=putE_length m k (.slice sa sn sc);have:=Hm3.out;omega) (HG16.out.ge.call h) hrd;rw[show rootF bt bits (256+1) (putE m k (.slice sa sn sc)) ((0:Nat):Int)=Dg from HRf.out] at this;exact this
      clear ht16 hr16 hh16 ha16 hz16 hd16 hs16 hB16 HG16 Hrd16 HD15 HS15 Hrow15 Hr15 Hb115 Hks HTr HPut HGp HRf;generalize putE m k (.slice sa sn sc)=m16 at *;have hq:=eqlDig Dg Dg HDk.out.len HDk.out.len;rw[decide_eq_true rfl] at hq;have hgd:=guardDig;have st17:=St.init w16;have q:∀wx,St w16.heap.size w16 [] wx→wx.cell? ⟨b5,32,none⟩=some (.slice sa sn sc):=fun wx hw=>by
       rw[cell_of_row wx b5 32 ec _ _ ((hw.below.block b5 (zAG Hrow16.out)).trans Hrow16.out)];exact HCl.out
      refine Mix.wp_region_mix 23 (St w16.heap.size w16 []) zBL (by kernel_rfl) st17.drew ?_;intro F inv;refine Mix.good_batch (f:=4) F St.up [0,1,2,3,4,5,6,7,8,9,10,11,12,13,14,15,16,17,18] _ _ inv (by kernel_rfl) ?_;clear inv st17
      (refine Mix.wpUp_cons rfl (fun K hK=>?_);go_simp;refine zER 8 #[] ?_ (fun wx stx=>(HR.out _ (Hb116.out.trans (stx.below.mono Hb116.out.size)))) ?_;· (intro wx hw;go_simp)
       refine hK _ ?_;clear hK K)
      iterate 5
       (refine Mix.wpUp_cons rfl (fun K hK=>?_);go_simp;apply zAU;· (intro wx hw;go_simp;(try go_ints);(try go_simp);(try (rw[if_pos (by omega)]));(try go_simp);(first | done | rfl))
        refine hK _ ?_;clear hK K)
      (refine Mix.wpUp_cons rfl (fun K hK=>?_);go_simp;refine up_loadG 38 _ rfl b11 0 rfl zFZ (zAJ Dg) (by rw[zAI,HDk.out.len];exact zBV) (fun wx hw=>Hdg16.out.call hw.below) ?_;rw[zBK]
       refine hK _ ?_;clear hK K)
      iterate 1
       (refine Mix.wpUp_cons rfl (fun K hK=>?_);go_simp;apply zAU;· (intro wx hw;go_simp;(try go_ints);(try go_simp);(try (rw[if_pos (by omega)]));(try go_simp);(first | done | rfl))
        refine hK _ ?_;clear hK K)
      (refine Mix.wpUp_cons rfl (fun K hK=>?_);go_simp;refine zER 21 #[.pointer (some ⟨tb,0,none⟩)] ?_ (fun wx stx=>(HTr16.out wx stx.below)) ?_;· (intro wx hw;go_simp)
       refine hK _ ?_;clear hK K)
      iterate 3
       (refine Mix.wpUp_cons rfl (fun K hK=>?_);go_simp;apply zAU;· (intro wx hw;go_simp;(try go_ints);(try go_simp);(try (rw[if_pos (by omega)]));(try go_simp);(first | done | rfl))
        refine hK _ ?_;clear hK K)
      (refine Mix.wpUp_cons rfl (fun K hK=>?_);go_simp;refine up_loadG 38 _ rfl b11 0 rfl zFZ (zAJ Dg) (by rw[zAI,HDk.out.len];exact zBV) (fun wx hw=>Hdg16.out.call hw.below) ?_;rw[zBK]
       refine hK _ ?_;clear hK K)
      iterate 3
       (refine Mix.wpUp_cons rfl (fun K hK=>?_);go_simp;apply zAU;· (intro wx hw;go_simp;(try go_ints);(try go_simp);(try (rw[if_pos (by omega)]));(try go_simp);(first | done | rfl))
        refine hK _ ?_;clear hK K)
      (refine Mix.wpUp_cons rfl (fun K hK=>?_);go_simp;refine zHS 37 _ rfl b5 0 32 rfl zBN _ _ (fun wx hw=>(hw.below.block b5 (zAG Hrow16.out)).trans Hrow16.out) zBC (by rw[HSz.out];decide) _ HPt.out ?_
       refine hK _ ?_;clear hK K)
      iterate 2
       (refine Mix.wpUp_cons rfl (fun K hK=>?_);go_simp;apply zAU;· (intro wx hw;have q1:=q wx hw;go_simp;(try go_ints);(try go_simp);(try (rw[if_pos (by omega)]));(try go_simp);(first | done | rfl))
        refine hK _ ?_;clear hK K)
      refine Mix.wpUp_nil ?_;intro inv;refine Mix.good_one (i:=19) (f:=3) (by kernel_rfl) inv (fun w18 st18=>?_);clear inv q;refine zAT rfl rfl 23 #[vm,.agg (kv k),.slice sa sn sc] (by go_simp) ?_;refine(HPr16.out _ st18.below).mono ?_;rintro e w19 ⟨v19,rfl,hrd19,hb19⟩;refine⟨_,rfl,fun wx=>St w16.heap.size w16 [] wx∧RdEs wx v19 m16,fun _ _ h hb=>⟨h.1.call hb,h.2.call hb⟩,⟨st18.call hb19,hrd19⟩,fun _ h=>h.1,fun inv=>?_⟩;clear st18 hrd19 hb19;refine Mix.good_batch (f:=0) F (fun _ _ h hb=>⟨h.1.call hb,h.2.call hb⟩) [20,21,22] _ _ inv (by kernel_rfl) ?_;clear inv
      (refine Mix.wpUp_cons rfl (fun K hK=>?_);go_simp;refine zER 22 #[.int .i64 bits,v19,.int .i64 0] ?_ (fun wx stx=>(HRr16.out v19 wx stx.1.below stx.2)) ?_;· (intro wx hw;go_simp)
       refine hK _ ?_;clear hK K)
      iterate 2
       (refine Mix.wpUp_cons rfl (fun K hK=>?_);go_simp;apply zAU;· (intro wx hw;go_simp;(try go_ints);(try go_simp);(try (rw[if_pos (by omega)]));(try go_simp);(first | done | rfl))
        refine hK _ ?_;clear hK K)
      refine Mix.wpUp_nil ?_;intro inv;clear inv F;refine⟨by kernel_rfl,fun w20 st20=>?_⟩;simp only[List.drop_succ_cons,List.drop_zero];go_wp2;go_ret;exact⟨rfl,Hb116.out.trans (st20.1.below.mono Hb116.out.size)⟩))
    )
  ·have h200i:(200:Int)<(sn:Nat):=by omega
   go_wp2_with (first
    |(go_at_call 8;refine(HR.out _ Hb12.out).mono ?_;rintro e w3 ⟨rfl,hb3⟩))
   go_ret;exact⟨rfl,Hb12.out.trans (hb3.mono Hb12.out.size)⟩
end
section
open Go Go.RowKit
theorem TopUpdates_walk{W:World}(bits:Int)(oa:Option Addr)(on oc:Nat)(ro:on≤1000→∃os,RdO W (.slice oa on oc) os∧∀o∈os,OpOk W (zGH W) (upsIn W) o)(k:List Nat)(ea:Option Addr)(en ec:Nat)(hk:Key k)(hs:BtOf W (.slice ea en ec) (zGH W (.slice ea en ec)))(hK:HasK roundsK W)(hg:GotET W) :
  Calls Tryz.prog 5 #[.int .i64 bits,.slice oa on oc,.agg (zFS (k,.slice ea en ec)).toArray] W fun e w'=>e=.returned (.bool true)∧Below W.heap.size W w':=by
 have hK':HasK zAK W:=hK;refine TopU_walk (zGH W) bits _ k hk ea en ec W hs (fun wx hb=>?_) hK' hg
 by_cases h:0≤bits∧bits≤256
 ·by_cases hl:12<on
  ·exact Grown_long bits h oa on oc hl wx
  ·obtain⟨os,hr,ho⟩:=ro (by omega)
   obtain⟨_,_,hf,_⟩:=hr.form;injection hf with _ hf;exact Grown_calls (bt:=zGH W) (ut:=upsIn W) bits h os _ wx (hr.call hb) (by omega) (fun o hm=>(ho o hm).call hb) (hK'.call hb) (hg.call hb)
 ·exact Grown_bits bits h _ wx
end
end Go.Proofs.YtlcngapphloafaaGreatDoor
