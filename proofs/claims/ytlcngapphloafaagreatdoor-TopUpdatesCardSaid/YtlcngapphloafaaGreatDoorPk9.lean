/- Parts of the proof that are used by the claim: Sha3. No condition is added here. -/
import Derived.Test.YtlcngapphloafaaGreatDoorPk8
import Derived.Deep.DeepCutAuto
namespace Go.Proofs.YtlcngapphloafaaGreatDoor
section
set_option maxHeartbeats 4000000
open Go Go.RowKit
attribute [local irreducible] Inv.wpInv Mix.wpUp
section
variable {P:Program} {ops:Array Oper} {rest:List Oper} {o:Oper} {a:Act} {w:World} {Q:Exit→Act→World→Prop}
theorem wpList_loadF(hgd:Region.wanted o (yielded ops a.tmps)=true)(ty:TypeId)(x:Operand)(ho:o.op=.load ty x)
  (g:Nat) (hx:a.eval x=.pointer (some ⟨g,0,none⟩)) (d:TypeDesc) (hu:P.underlying ty=some d) (hd:zGJ d=true) (cs:Array Value) (t:TypeId) (fr:Nat×Nat)
  (hg:w.heap[g]?=some (.cells cs t fr)) (hi:(P.info? ty).map (·.size)=some cs.size)
  (h:wpList P ops Q rest (a.put o.dst (.agg cs)) w):wpList P ops Q (o::rest) a w:=by
 refine zCP hgd fun K hK=>?_
 unfold Oper.wp execOp;simp only[ho,hx,Sem.run_bind,zHV w g t ty cs fr d hg hu hd hi,Result.andThen_ok,Sem.run_pure,Oper.upon];exact hK _ _ h
end
theorem start_calls(w:World):Calls Tryz.prog 159 #[] w fun e w'=>e=.returned (.agg (uv zHB))∧Below w.heap.size w w':=by
 have st:=St.init w;have hB:=builtStart;go_enter Tryz.func159,Tryz.ntmps159
 go_wp2_with (first
  |(refine zAE st rfl 283 rfl _ zeroState ?_;intro b1 w1 st1;clear st)
  |(refine zAM rfl 283 _ rfl [(0,.int .u32 1779033703),(1,.int .u32 3144134277),(2,.int .u32 1013904242),(3,.int .u32 2773480762),(4,.int .u32 1359893119),(5,.int .u32 2600822924),(6,.int .u32 528734635),(7,.int .u32 1541459225)] ?_ _ hB ?_;· (simp[Act.eval];done))
  |(refine zAA st1 rfl 283 _ _ rfl 0 b1 rfl (.agg (uv zHB)) rfl _ _ rfl sizeState rfl (uv_one zHB) _ rfl ?_;intro w2 st2;clear st1))
 exact zBX rfl b1 _ _ _ rfl (st2.at (i:=0) rfl) aggState rfl sizeState rfl ⟨rfl,st2.below⟩
set_option maxRecDepth 20000 in
theorem take_calls(K S:List Int)(l:List Nat)(hK:K.length=64)(hS:S.length=8)(hb:∀k,l.getD k 0<256)(B sb pb off:Nat)(tS:TypeId)(w0 w:World)(L:List (Nat×Array Value×TypeId))
  (st:St B w0 ((sb,uv S,tS)::L) w) (hk1:∀wx,Below B w0 wx→∃t fz,wx.heap[1]?=some (.cells (uv K) t fz))
  (hblk:∀S' wx,St B w0 ((sb,S',tS)::L) wx→∀k,k<64→wx.cell? ⟨pb,off+k,none⟩=some (.int .u8 (l.getD k 0:Nat))) :
  Calls Tryz.prog 160 #[.pointer (some ⟨sb,0,none⟩),.slice (some ⟨pb,off,none⟩) 64 64] w
   fun e w'=>(∃v,e=.returned v)∧St B w0 ((sb,uv (takeF K S l),tS)::L) w'∧w.grownBy w' (some sb):=by
 have HBy:=Lib.hid hb;have HBlk:=Lib.hid hblk;clear hb hblk;go_enter Tryz.func160,Tryz.ntmps160
 go_wp2_with (first | (refine zCR st rfl 311 rfl _ zeroW ?_;intro wb w1 st1 hwb hb1;clear st;have kp1:=zDZ (World.grownBy.refl w (some sb)) hb1;clear hb1))
 rw[←rowW_zero l] at st1
 go_loopw [24] (fun i wr=>∃k:Int,0≤k∧k≤16∧i=.int .i64 k∧St B w0 ((wb,uv (zIF l k.toNat 0),311)::(sb,uv S,tS)::L) wr∧w.grownBy wr (some sb)) (fun i _=>(16 - intOf i).toNat)
 case atStart=>exact⟨0,by omega,by omega,rfl,st1,kp1⟩
 case round =>
  obtain⟨k,k0,k1,rfl,st2,kp2⟩:=hrel;clear st1 kp1
  by_cases hlt:k<16
  ·go_wp2
   go_loopw [35] (fun j wr=>∃m:Int,0≤m∧m≤4∧j=.int .i64 m∧St B w0 ((wb,uv (zIF l k.toNat m.toNat),311)::(sb,uv S,tS)::L) wr∧w.grownBy wr (some sb)) (fun j _=>(4 - intOf j).toNat)
   case atStart=>exact⟨0,by omega,by omega,rfl,st2,kp2⟩
   case round =>
    obtain⟨m,m0,m1,rfl,st3,kp3⟩:=hrel;clear st2 kp2
    by_cases hm:m<4
    ·have hcW:wr.cell? ⟨wb,k.toNat,none⟩=some (.int .u32 (wordJ l k.toNat m.toNat)):=by
      rw[st3.cell (i:=0) rfl k.toNat,uv_get _ _ (by rw[rowW_len];omega),rowW_get _ _ _ (by omega)]
     have hcB:=HBlk.out _ wr st3.drop (4*k+m).toNat (by omega);have hx:=HBy.out (4*k.toNat+m.toNat);have Hrow:Hid ((uv (zIF l k.toNat m.toNat)).setIfInBounds k.toNat (.int .u32 (or32 (IntKind.u32.wrap (wordJ l k.toNat m.toNat*256)) (l.getD (4*k.toNat+m.toNat) 0:Nat)))=uv (zIF l k.toNat (m+1).toNat)):=by
      unfold Hid;rw[uv_set,show (m+1).toNat=m.toNat+1 by omega,←rowW_set];rfl
     have Hsz:Hid (k.toNat<(uv (zIF l k.toNat m.toNat)).size):=by unfold Hid;rw[uv_size,rowW_len];omega
     rw[show off+(4*k+m).toNat=off+(4*k).toNat+m.toNat by omega,show (4*k+m).toNat=4*k.toNat+m.toNat by omega] at hcB;generalize l.getD (4*k.toNat+m.toNat) 0=X at *;generalize wordJ l k.toNat m.toNat=Wd at *;have hx0:(0:Int)≤(X:Int):=by omega
     have hx1:(X:Int)<256:=by omega
     clear hx;generalize (X:Int)=Y at *
     go_wp2_with (first | (refine zBD st3 rfl 243 _ _ rfl 0 wb k.toNat rfl (.int .u32 (or32 (IntKind.u32.wrap (Wd*256)) Y)) rfl _ _ rfl zID rfl Hsz.out rfl _ Hrow.out _ rfl ?_;intro w4 st4 hg4;clear st3;have kp4:=kp3.andThen hg4 (fun j e=>.inl (by cases e;exact hwb));clear hg4 kp3))
     go_roundw
     case rel=>exact⟨m+1,by omega,by omega,rfl,st4,kp4⟩
     case measure=>simp[intOf];omega
    ·obtain rfl:m=4:=by omega
     have e:zIF l k.toNat (4:Int).toNat=zIF l (k+1).toNat 0:=by rw[show (k+1).toNat=k.toNat+1 by omega];exact rowW_next l k.toNat
     rw[e] at st3;clear e;go_wp2;go_roundw
     case rel=>exact⟨k+1,by omega,by omega,rfl,st3,kp3⟩
     case measure=>simp[intOf];omega
  ·obtain rfl:k=16:=by omega
   have hW:zIF l (16:Int).toNat 0=zIF l 16 0:=rfl;rw[hW] at st2;clear hW HBlk HBy;go_wp2;refine Inv.wp_region_inv 40 (fun wx=>St B w0 ((wb,uv (zIF l 16 0),311)::(sb,uv S,tS)::L) wx∧w.grownBy wx (some sb)) zBL (by kernel_rfl) ⟨st2.drew,zDZ kp2 (Below.refl _ _).drew⟩ ?_;have q:∀wx,(St B w0 ((wb,uv (zIF l 16 0),311)::(sb,uv S,tS)::L) wx∧w.grownBy wx (some sb))→(wx.cell? ⟨sb,0,none⟩=some (.int .u32 (S.getD 0 0))∧wx.cell? ⟨sb,1,none⟩=some (.int .u32 (S.getD 1 0))∧wx.cell? ⟨sb,2,none⟩=some (.int .u32 (S.getD 2 0))∧wx.cell? ⟨sb,3,none⟩=some (.int .u32 (S.getD 3 0))∧wx.cell? ⟨sb,4,none⟩=some (.int .u32 (S.getD 4 0))∧wx.cell? ⟨sb,5,none⟩=some (.int .u32 (S.getD 5 0))∧wx.cell? ⟨sb,6,none⟩=some (.int .u32 (S.getD 6 0))∧wx.cell? ⟨sb,7,none⟩=some (.int .u32 (S.getD 7 0))):=fun wx hw=>by
    have hc:=fun t (ht:t<8)=>(hw.1.cell (i:=1) rfl t).trans (uv_get S t (by omega))
    exact⟨hc 0 (by omega),hc 1 (by omega),hc 2 (by omega),hc 3 (by omega),hc 4 (by omega),hc 5 (by omega),hc 6 (by omega),hc 7 (by omega)⟩
   have hs0:Hid (zGS S=⟨S.getD 0 0,S.getD 1 0,S.getD 2 0,S.getD 3 0,S.getD 4 0,S.getD 5 0,S.getD 6 0,S.getD 7 0⟩):=rfl;generalize S.getD 0 0=s0 at *;generalize S.getD 1 0=s1 at *;generalize S.getD 2 0=s2 at *;generalize S.getD 3 0=s3 at *;generalize S.getD 4 0=s4 at *;generalize S.getD 5 0=s5 at *;generalize S.getD 6 0=s6 at *;generalize S.getD 7 0=s7 at *;simp only[List.take_succ_cons,List.take_zero,List.drop_succ_cons,List.drop_zero]
   iterate 40
    (refine Inv.wpInv_step (fun K hK=>?_);go_simp;apply zAL;· (intro wx hw;have q1:=q wx hw;go_simp;(try go_ints);(try go_simp);(try (rw[if_pos (by omega)]));(try go_simp);(first | done | rfl))
     refine hK _ ?_;clear hK K)
   refine Inv.wpInv_nil ?_;rintro w3 ⟨st3,kp3⟩;clear q st2 kp2;obtain⟨tk,fk,hkr⟩:=hk1 w3 st3.below
   go_wp2_with (first | (refine wpList_loadF rfl 312 _ rfl 1 rfl _ agg64 rfl (uv K) tk fk hkr (by rw[uv_size,hK];exact size64) ?_))
   clear hkr
   go_loopw [8,9,10,11,12,13,14,15,83] (fun a b c d e f g h i wr=>∃(k:Int) (W:List Int) (a' b' c' d' e' f' g' h':Int),0≤k∧k≤64∧i=.int .i64 k∧a=.int .u32 a'∧b=.int .u32 b'∧c=.int .u32 c'∧d=.int .u32 d'∧e=.int .u32 e'∧f=.int .u32 f'∧g=.int .u32 g'∧h=.int .u32 h' ∧
    Hid (zEU K (zIF l 16 0) (zGS S) k.toNat=(W,⟨a',b',c',d',e',f',g',h'⟩))∧St B w0 ((wb,uv W,311)::(sb,uv S,tS)::L) wr∧w.grownBy wr (some sb)) (fun _ _ _ _ _ _ _ _ i _=>(64 - intOf i).toNat)
   case atStart=>exact⟨0,_,_,_,_,_,_,_,_,_,by omega,by omega,rfl,rfl,rfl,rfl,rfl,rfl,rfl,rfl,rfl,congrArg (Prod.mk _) hs0.out,st3,kp3⟩
   case round =>
    obtain⟨k,W,a,b,c,d,e,f,g,h,k0,k1,rfl,rfl,rfl,rfl,rfl,rfl,rfl,rfl,rfl,hN,st4,kp4⟩:=hrel;clear st3 kp3;have hWl:W.length=16:=by
     have h:=roundsN_len K (zIF l 16 0) (zGS S) (rowW_len _ _ _) k.toNat;rw[hN.out] at h;exact h
    by_cases hlt:k<64
    ·have hidx:=fun wx=>run_index_word (P:=Tryz.prog) wx 312 243 64 Tryz.underlying312 Tryz.underlying243 zID K hK k k0 hlt
     have HN:Hid (zEU K (zIF l 16 0) (zGS S) (k+1).toNat=(mixW W k.toNat,turn8 ⟨a,b,c,d,e,f,g,h⟩ (turnT ⟨a,b,c,d,e,f,g,h⟩ (K.getD k.toNat 0) ((mixW W k.toNat).getD (k.toNat%16) 0)))):=by
      unfold Hid;rw[show (k+1).toNat=k.toNat+1 by omega]
      show ((mixW (zEU K (zIF l 16 0) (zGS S) k.toNat).1 k.toNat),_)=_
      rw[hN.out]
     clear hN;generalize K.getD k.toNat 0=kk at *
     go_upto_if 90 with fail
     go_cut [18] (fun s wx=>s=.int .i64 (k%16)∧St B w0 ((wb,uv (mixW W k.toNat),311)::(sb,uv S,tS)::L) wx∧w.grownBy wx (some sb))
     case first =>
      by_cases h16:k<16
      ·have hmx:mixW W k.toNat=W:=if_pos (by omega)
       go_wp2
       go_meet
       case rel=>exact⟨rfl,by rw[hmx];exact st4,kp4⟩
      ·go_wp2
       have hqc:Hid (∀wx,St B w0 ((wb,uv W,311)::(sb,uv S,tS)::L) wx→(wx.cell? ⟨wb,((k+1)%16).toNat,none⟩=some (.int .u32 (W.getD ((k.toNat+1)%16) 0))∧wx.cell? ⟨wb,((k+14)%16).toNat,none⟩=some (.int .u32 (W.getD ((k.toNat+14)%16) 0))∧wx.cell? ⟨wb,((k+9)%16).toNat,none⟩=some (.int .u32 (W.getD ((k.toNat+9)%16) 0))∧wx.cell? ⟨wb,(k%16).toNat,none⟩=some (.int .u32 (W.getD (k.toNat%16) 0)))):=fun wx hw=>by
        have hc:=fun t (ht:t<16)=>(hw.cell (i:=0) rfl t).trans (uv_get W t (by omega))
        exact⟨by rw[show ((k+1)%16).toNat=(k.toNat+1)%16 by omega];exact hc _ (by omega),by rw[show ((k+14)%16).toNat=(k.toNat+14)%16 by omega];exact hc _ (by omega),by rw[show ((k+9)%16).toNat=(k.toNat+9)%16 by omega];exact hc _ (by omega),by rw[show (k%16).toNat=k.toNat%16 by omega];exact hc _ (by omega)⟩
       have Hmix:Hid ((uv W).setIfInBounds (k%16).toNat (.int .u32 (mixV (W.getD (k.toNat%16) 0) (W.getD ((k.toNat+1)%16) 0) (W.getD ((k.toNat+9)%16) 0) (W.getD ((k.toNat+14)%16) 0)))=uv (mixW W k.toNat)):=by
        unfold Hid;rw[uv_set,show (k%16).toNat=k.toNat%16 by omega];unfold mixW;rw[if_neg (by omega)]
       have Hsz:Hid ((k%16).toNat<(uv W).size):=by unfold Hid;rw[uv_size,hWl];omega
       generalize W.getD ((k.toNat+1)%16) 0=X1 at *;generalize W.getD ((k.toNat+14)%16) 0=X14 at *;generalize W.getD ((k.toNat+9)%16) 0=X9 at *;generalize W.getD (k.toNat%16) 0=X0 at *;refine Inv.wp_region_inv 12 (fun wx=>St B w0 ((wb,uv W,311)::(sb,uv S,tS)::L) wx∧w.grownBy wx (some sb)) zBL (by kernel_rfl) ⟨st4.drew,zDZ kp4 (Below.refl _ _).drew⟩ ?_;have q:∀wx,(St B w0 ((wb,uv W,311)::(sb,uv S,tS)::L) wx∧w.grownBy wx (some sb))→_:=fun wx hw=>hqc.out wx hw.1
       simp only[List.take_succ_cons,List.take_zero,List.drop_succ_cons,List.drop_zero]
       iterate 12
        (refine Inv.wpInv_step (fun K hK=>?_);go_simp;apply zAL;· (intro wx hw;have q1:=q wx hw;go_simp;(try go_ints);(try go_simp);(try (rw[if_pos (by omega)]));(try go_simp);(first | done | rfl))
         refine hK _ ?_;clear hK K)
       refine Inv.wpInv_nil ?_;rintro w5 ⟨st5,kp5⟩;clear q st4 kp4;go_wp2;refine Mix.wp_region_mix 23 (fun wx=>St B w0 ((wb,uv W,311)::(sb,uv S,tS)::L) wx∧w.grownBy wx (some sb)) zBL (by kernel_rfl) ⟨st5.drew,zDZ kp5 (Below.refl _ _).drew⟩ ?_;intro F inv;refine Mix.good_batch (f:=9) F Up.kept [0,1,2,3,6,7,9,10,11,12,13,15,18,19] _ _ inv (by kernel_rfl) ?_;clear inv
       iterate 14
        (refine Mix.wpUp_cons rfl (fun K hK=>?_);go_simp;apply zAU;· (intro wx hw;have q1:=(fun wx (h:_∧_)=>hqc.out wx h.1) wx hw;go_simp;(try go_ints);(try go_simp);(try (rw[if_pos (by omega)]));(try go_simp);(first | done | rfl))
         refine hK _ ?_;clear hK K)
       refine Mix.wpUp_nil ?_;intro inv;refine Mix.good_two (i:=4) (k:=16) (f:=8) (by kernel_rfl) inv (fun w6 st6=>?_) (fun w6 st6=>?_)
       ·clear inv
        refine zBQ st6.1 rfl rfl 250 2 _ rfl 3 sliceInt (.int .i64 0) 1 zeroInt sizeInt (by decide) (by decide) [(0,.int .i64 7),(1,.int .i64 18)] (by simp[Act.eval]) _ (fill2 7 18) ?_;intro bA w7 st7 hb7;refine⟨_,Up.kept,⟨st7,zDZ st6.2 hb7⟩,fun _ s=>⟨s.1.drop,s.2⟩,fun inv=>?_⟩;clear st7 st6 hb7;refine Mix.good_batch (f:=5) F Up.kept [5,8,14] _ _ inv (by kernel_rfl) ?_;clear inv
        (refine Mix.wpUp_cons rfl (fun K hK=>?_);go_simp;refine zER 186 _ ?_ (fun wx stx=>right_own X1 [7,18] 2 bA wx rfl _ (stx.1.at (i:=0) rfl) (by decide) (by decide)) ?_;· (intro wx hw;go_simp)
         refine hK _ ?_;clear hK K)
        iterate 2
         (refine Mix.wpUp_cons rfl (fun K hK=>?_);go_simp;apply zAU;· (intro wx hw;go_simp;(try go_ints);(try go_simp);(try (rw[if_pos (by omega)]));(try go_simp);(first | done | rfl))
          refine hK _ ?_;clear hK K)
        refine Mix.wpUp_nil ?_;intro inv;refine Mix.good_one (i:=16) (f:=4) (by kernel_rfl) inv (fun w6 st6=>?_);clear inv;refine zBQ st6.1 rfl rfl 250 2 _ rfl 3 sliceInt (.int .i64 0) 1 zeroInt sizeInt (by decide) (by decide) [(0,.int .i64 17),(1,.int .i64 19)] (by simp[Act.eval]) _ (fill2 17 19) ?_;intro bB w7 st7 hb7;refine⟨_,Up.kept,⟨st7,zDZ st6.2 hb7⟩,fun _ s=>⟨s.1.drop,s.2⟩,fun inv=>?_⟩;clear st7 st6 hb7;refine Mix.good_batch (f:=0) F Up.kept [17,20,21,22] _ _ inv (by kernel_rfl) ?_;clear inv
        (refine Mix.wpUp_cons rfl (fun K hK=>?_);go_simp;refine zER 186 _ ?_ (fun wx stx=>right_own X14 [17,19] 2 bB wx rfl _ (stx.1.at (i:=0) rfl) (by decide) (by decide)) ?_;· (intro wx hw;go_simp)
         refine hK _ ?_;clear hK K)
        iterate 3
         (refine Mix.wpUp_cons rfl (fun K hK=>?_);go_simp;apply zAU;· (intro wx hw;go_simp;(try go_ints);(try go_simp);(try (rw[if_pos (by omega)]));(try go_simp);(first | done | rfl))
          refine hK _ ?_;clear hK K)
        refine Mix.wpUp_nil ?_;intro inv;clear inv F;refine⟨by kernel_rfl,fun w8 st8=>?_⟩;clear st5 kp5;obtain⟨st8,kp8⟩:=st8;simp only[List.drop_succ_cons,List.drop_zero]
        go_wp2_with (first | (refine zBD st8 rfl 243 _ _ rfl 2 wb (k%16).toNat rfl (.int .u32 (mixV X0 X1 X9 X14)) rfl _ _ rfl zID rfl Hsz.out rfl _ Hmix.out ((bB,iv [17,19],3)::(bA,iv [7,18],3)::(wb,uv (mixW W k.toNat),311)::(sb,uv S,tS)::L) rfl ?_;intro w9 st9 hg9;clear st8;have kp9:=kp8.andThen hg9 (fun j e=>.inl (by cases e;exact hwb));clear hg9 kp8))
        go_meet
        case rel=>exact⟨rfl,st9.drop.drop,kp9⟩
       ·clear inv
        refine zBQ st6.1 rfl rfl 250 2 _ rfl 3 sliceInt (.int .i64 0) 1 zeroInt sizeInt (by decide) (by decide) [(0,.int .i64 17),(1,.int .i64 19)] (by simp[Act.eval]) _ (fill2 17 19) ?_;intro bB w7 st7 hb7;refine⟨_,Up.kept,⟨st7,zDZ st6.2 hb7⟩,fun _ s=>⟨s.1.drop,s.2⟩,fun inv=>?_⟩;clear st7 st6 hb7;refine Mix.good_one (i:=4) (f:=7) (by kernel_rfl) inv (fun w6 st6=>?_);clear inv;refine zBQ st6.1 rfl rfl 250 2 _ rfl 3 sliceInt (.int .i64 0) 1 zeroInt sizeInt (by decide) (by decide) [(0,.int .i64 7),(1,.int .i64 18)] (by simp[Act.eval]) _ (fill2 7 18) ?_;intro bA w7 st7 hb7;refine⟨_,Up.kept,⟨st7,zDZ st6.2 hb7⟩,fun _ s=>⟨s.1.drop,s.2⟩,fun inv=>?_⟩;clear st7 st6 hb7;refine Mix.good_batch (f:=0) F Up.kept [5,8,14,17,20,21,22] _ _ inv (by kernel_rfl) ?_;clear inv
        (refine Mix.wpUp_cons rfl (fun K hK=>?_);go_simp;refine zER 186 _ ?_ (fun wx stx=>right_own X1 [7,18] 2 bA wx rfl _ (stx.1.at (i:=0) rfl) (by decide) (by decide)) ?_;· (intro wx hw;go_simp)
         refine hK _ ?_;clear hK K)
        iterate 2
         (refine Mix.wpUp_cons rfl (fun K hK=>?_);go_simp;apply zAU;· (intro wx hw;go_simp;(try go_ints);(try go_simp);(try (rw[if_pos (by omega)]));(try go_simp);(first | done | rfl))
          refine hK _ ?_;clear hK K)
        (refine Mix.wpUp_cons rfl (fun K hK=>?_);go_simp;refine zER 186 _ ?_ (fun wx stx=>right_own X14 [17,19] 2 bB wx rfl _ (stx.1.at (i:=1) rfl) (by decide) (by decide)) ?_;· (intro wx hw;go_simp)
         refine hK _ ?_;clear hK K)
        iterate 3
         (refine Mix.wpUp_cons rfl (fun K hK=>?_);go_simp;apply zAU;· (intro wx hw;go_simp;(try go_ints);(try go_simp);(try (rw[if_pos (by omega)]));(try go_simp);(first | done | rfl))
          refine hK _ ?_;clear hK K)
        refine Mix.wpUp_nil ?_;intro inv;clear inv F;refine⟨by kernel_rfl,fun w8 st8=>?_⟩;clear st5 kp5;obtain⟨st8,kp8⟩:=st8;simp only[List.drop_succ_cons,List.drop_zero]
        go_wp2_with (first | (refine zBD st8 rfl 243 _ _ rfl 2 wb (k%16).toNat rfl (.int .u32 (mixV X0 X1 X9 X14)) rfl _ _ rfl zID rfl Hsz.out rfl _ Hmix.out ((bA,iv [7,18],3)::(bB,iv [17,19],3)::(wb,uv (mixW W k.toNat),311)::(sb,uv S,tS)::L) rfl ?_;intro w9 st9 hg9;clear st8;have kp9:=kp8.andThen hg9 (fun j e=>.inl (by cases e;exact hwb));clear hg9 kp8))
        go_meet
        case rel=>exact⟨rfl,st9.drop.drop,kp9⟩
     case rest =>
      obtain⟨rfl,st5,kp5⟩:=hcut;clear st4 kp4;have hWl2:(mixW W k.toNat).length=16:=by rw[mixW_len,hWl]
      have hqc:Hid (∀wx,St B w0 ((wb,uv (mixW W k.toNat),311)::(sb,uv S,tS)::L) wx→wx.cell? ⟨wb,(k%16).toNat,none⟩=some (.int .u32 ((mixW W k.toNat).getD (k.toNat%16) 0))):=fun wx hw=>by
       rw[show (k%16).toNat=k.toNat%16 by omega];exact(hw.cell (i:=0) rfl _).trans (uv_get _ _ (by omega))
      generalize (mixW W k.toNat).getD (k.toNat%16) 0=Wat at *;clear hWl hWl2;generalize mixW W k.toNat=W2 at *;have HT:Hid (turnT ⟨a,b,c,d,e,f,g,h⟩ kk Wat=(h+zHH e [6,11,25]+Go.bits .xor .u32 g (Go.bits .and .u32 e (Go.bits .xor .u32 f g))+kk+Wat)%4294967296):=rfl;go_wp2;refine Mix.wp_region_mix 19 (fun wx=>St B w0 ((wb,uv W2,311)::(sb,uv S,tS)::L) wx∧w.grownBy wx (some sb)) zBL (by kernel_rfl) ⟨st5.drew,zDZ kp5 (Below.refl _ _).drew⟩ ?_;intro F inv;refine Mix.good_batch (f:=6) F Up.kept [0,1,5,6,7,8,9,10,11,13,15,16,17] _ _ inv (by kernel_rfl) ?_;clear inv
      iterate 13
       (refine Mix.wpUp_cons rfl (fun K hK=>?_);go_simp;apply zAU;· (intro wx hw;have q1:=(fun wx (h:_∧_)=>hqc.out wx h.1) wx hw;go_simp;(try go_ints);(try go_simp);(try (rw[if_pos (by omega)]));(try go_simp);(first | done | rfl))
        refine hK _ ?_;clear hK K)
      refine Mix.wpUp_nil ?_;intro inv;refine Mix.good_one (i:=2) (f:=5) (by kernel_rfl) inv (fun w6 st6=>?_);clear inv;refine zBQ st6.1 rfl rfl 250 3 _ rfl 3 sliceInt (.int .i64 0) 1 zeroInt sizeInt (by decide) (by decide) [(0,.int .i64 6),(1,.int .i64 11),(2,.int .i64 25)] (by simp[Act.eval]) _ (fill3 6 11 25) ?_;intro bA w7 st7 hb7;refine⟨_,Up.kept,⟨st7,zDZ st6.2 hb7⟩,fun _ s=>⟨s.1.drop,s.2⟩,fun inv=>?_⟩;clear st7 st6 hb7;refine Mix.good_batch (f:=0) F Up.kept [3,4,12,14,18] _ _ inv (by kernel_rfl) ?_;clear inv
      (refine Mix.wpUp_cons rfl (fun K hK=>?_);go_simp;refine zER 186 _ ?_ (fun wx stx=>right_own e [6,11,25] 3 bA wx rfl _ (stx.1.at (i:=0) rfl) (by decide) (by decide)) ?_;· (intro wx hw;go_simp)
       refine hK _ ?_;clear hK K)
      iterate 4
       (refine Mix.wpUp_cons rfl (fun K hK=>?_);go_simp;apply zAU;· (intro wx hw;go_simp;(try go_ints);(try go_simp);(try (rw[if_pos (by omega)]));(try go_simp);(first | done | rfl))
        refine hK _ ?_;clear hK K)
      refine Mix.wpUp_nil ?_;intro inv;clear inv F;refine⟨by kernel_rfl,fun w8 st8=>?_⟩;clear st5 kp5;obtain⟨st8,kp8⟩:=st8;simp only[List.drop_succ_cons,List.drop_zero];rw[←HT.out];generalize turnT ⟨a,b,c,d,e,f,g,h⟩ kk Wat=T at *
      go_wp2_with (first
       |(refine zAR st8 rfl 250 3 _ rfl 3 sliceInt (.int .i64 0) 1 zeroInt sizeInt (by decide) (by decide) [(0,.int .i64 2),(1,.int .i64 13),(2,.int .i64 22)] ?_ _ (fill3 2 13 22) ?_;· (simp[Act.eval];done)
         intro bC w9 st9 hb9;have kp9:=zDZ kp8 hb9;clear hb9 kp8)
       |(go_at_call 186;refine(right_own a [2,13,22] 3 bC w9 rfl _ (st9.at (i:=0) rfl) (by decide) (by decide)).mono ?_;rintro ev wn ⟨rfl,hbel⟩;have st10:=st9.call hbel;have kp10:=zDZ kp9 hbel;clear hbel st9 st8 kp9))
      go_roundw
      case rel=>exact⟨k+1,_,_,_,_,_,_,_,_,_,by omega,by omega,rfl,rfl,rfl,rfl,rfl,rfl,rfl,rfl,rfl,HN.out,st10.drop.drop,kp10⟩
      case measure=>simp[intOf];omega
    ·obtain rfl:k=64:=by omega
     have HN:Hid (takeF K S l=addS S ⟨a,b,c,d,e,f,g,h⟩ 8):=by
      unfold Hid takeF;rw[show zEU K (zIF l 16 0) (zGS S) 64=(W,⟨a,b,c,d,e,f,g,h⟩) from hN.out]
     rw[←addS_zero S ⟨a,b,c,d,e,f,g,h⟩ hS] at st4;have Hl8:Hid (zFI ⟨a,b,c,d,e,f,g,h⟩=[a,b,c,d,e,f,g,h]):=rfl;have hB:=builtEight a b c d e f g h;have hidx:Hid (∀(k:Int) wx,0≤k→k<8→(Instr.index 244 (.agg (uv [a,b,c,d,e,f,g,h])) (.int .i64 k)).run Tryz.prog wx=.ok (.int .u32 ((zFI ⟨a,b,c,d,e,f,g,h⟩).getD k.toNat 0)) wx):=fun k wx h0 h1=>run_index_word (P:=Tryz.prog) wx 244 243 8 Tryz.underlying244 Tryz.underlying243 zID _ rfl k h0 h1
     generalize (⟨a,b,c,d,e,f,g,h⟩:Eight)=E at *;clear hN hWl hK
     go_wp2_with (first | (refine zAM rfl 244 _ rfl [(0,.int .u32 a),(1,.int .u32 b),(2,.int .u32 c),(3,.int .u32 d),(4,.int .u32 e),(5,.int .u32 f),(6,.int .u32 g),(7,.int .u32 h)] ?_ _ hB ?_;· (simp[Act.eval];done)))
     clear hB Hl8;generalize uv [a,b,c,d,e,f,g,h]=U8 at *
     go_loopw [178] (fun i wr=>∃k:Int,0≤k∧k≤8∧i=.int .i64 k∧St B w0 ((wb,uv W,311)::(sb,uv (addS S E k.toNat),tS)::L) wr∧w.grownBy wr (some sb)) (fun i _=>(8 - intOf i).toNat)
     case atStart=>exact⟨0,by omega,by omega,rfl,st4,kp4⟩
     case round =>
      obtain⟨k,k0,k1,rfl,st5,kp5⟩:=hrel;clear st4 kp4
      by_cases hlt:k<8
      ·have hx:=fun wx=>hidx.out k wx k0 hlt
       have hqc:Hid (∀wx,St B w0 ((wb,uv W,311)::(sb,uv (addS S E k.toNat),tS)::L) wx→wx.cell? ⟨sb,k.toNat,none⟩=some (.int .u32 (S.getD k.toNat 0))):=fun wx hw=>by
        rw[←addS_get S E k.toNat (by omega)];exact(hw.cell (i:=1) rfl _).trans (uv_get _ _ (by rw[addS_len];omega))
       have Hrow:Hid ((uv (addS S E k.toNat)).setIfInBounds k.toNat (.int .u32 (add32 (S.getD k.toNat 0) ((zFI E).getD k.toNat 0)))=uv (addS S E (k+1).toNat)):=by
        unfold Hid;rw[uv_set,addS_set,show (k+1).toNat=k.toNat+1 by omega]
       have Hsz:Hid (k.toNat<(uv (addS S E k.toNat)).size):=by unfold Hid;rw[uv_size,addS_len];omega
       generalize S.getD k.toNat 0=X at *;generalize (zFI E).getD k.toNat 0=Y at *;go_wp2;refine Inv.wp_region_inv 9 (fun wx=>St B w0 ((wb,uv W,311)::(sb,uv (addS S E k.toNat),tS)::L) wx∧w.grownBy wx (some sb)) zBL (by kernel_rfl) ⟨st5.drew,zDZ kp5 (Below.refl _ _).drew⟩ ?_;have q:∀wx,(St B w0 ((wb,uv W,311)::(sb,uv (addS S E k.toNat),tS)::L) wx∧w.grownBy wx (some sb))→wx.cell? ⟨sb,k.toNat,none⟩=some (.int .u32 X):=fun wx hw=>hqc.out wx hw.1
       simp only[List.take_succ_cons,List.take_zero,List.drop_succ_cons,List.drop_zero]
       iterate 9
        (refine Inv.wpInv_step (fun K hK=>?_);go_simp;apply zAL;· (intro wx hw;have q1:=q wx hw;go_simp;(try go_ints);(try go_simp);(try (rw[if_pos (by omega)]));(try go_simp);(first | done | rfl))
         refine hK _ ?_;clear hK K)
       refine Inv.wpInv_nil ?_;rintro w6 ⟨st6,kp6⟩;clear q st5 kp5
       go_wp2_with (first | (refine zBD st6 rfl 243 _ _ rfl 1 sb k.toNat rfl (.int .u32 (add32 X Y)) rfl _ _ rfl zID rfl Hsz.out rfl _ Hrow.out ((wb,uv W,311)::(sb,uv (addS S E (k+1).toNat),tS)::L) rfl ?_;intro w7 st7 hg7;clear st6;have kp7:=kp6.andThen hg7 (fun j e=>.inr e);clear hg7 kp6))
       go_roundw
       case rel=>exact⟨k+1,by omega,by omega,rfl,st7,kp7⟩
       case measure=>simp[intOf];omega
      ·obtain rfl:k=8:=by omega
       go_wp2
       go_end0
       rw[HN.out];exact⟨⟨_,rfl⟩,st5.drop,kp5⟩
end
end Go.Proofs.YtlcngapphloafaaGreatDoor
