/- Parts of the proof that are used by the claim: Dec3, Supports. No condition is added here. -/
import Derived.Test.YtlcngapphloafaaGreatDoorPk16
import Derived.Deep.CutRange
import Derived.Laws.Bits64b
namespace Go.Proofs.YtlcngapphloafaaGreatDoor
section
set_option maxHeartbeats 2000000
open Go Go.RowKit
attribute [local irreducible] Inv.wpInv Mix.wpUp
theorem wrap64_ok(n:Int)(h : -9223372036854775808≤n∧n≤9223372036854775807):wrap64 n=n:=by unfold wrap64;omega
theorem bits_or_i64(x y:Nat)(hx:x<1099511627776)(hy:y<256):bits .or .i64 ((x:Int)*256) (y:Int)=((x*256+y:Nat):Int):=by
 have e:((x:Int)*256)=((x*256:Nat):Int):=by omega
 rw[e];have h0:x*256 ||| y=x*256+y:=by
  have h:=Nat.shiftLeft_add_eq_or_of_lt (i:=8) (b:=y) (by omega) x;rw[Nat.shiftLeft_eq] at h;exact h.symm
 have h1:(BitVec.ofInt 64 ((x*256:Nat):Int)).toNat=x*256:=by
  rw[BitVec.ofInt_natCast,BitVec.toNat_ofNat];exact Nat.mod_eq_of_lt (by omega)
 have h2:(BitVec.ofInt 64 (y:Int)).toNat=y:=by
  rw[BitVec.ofInt_natCast,BitVec.toNat_ofNat];exact Nat.mod_eq_of_lt (by omega)
 show IntKind.i64.wrap ((BitVec.ofInt 64 ((x*256:Nat):Int) ||| BitVec.ofInt 64 (y:Int)).toNat:Int)=_
 rw[BitVec.toNat_or,h1,h2,h0];generalize hz:x*256+y=z;rw[IntKind.wrap_i64];omega
def Head(l:List Nat)(w:World)(v':Value)(l':List Nat)(bad':Bool)(lf':List Nat):Prop :=
 RdS w v' l'∧lf'.length=64∧(bad'=false→lf'=lfOf l∧l'=zFP l∧(kdOf l=1→100≤l.length))∧(bad'=true→¬decOk l)
theorem head_zero(l:List Nat)(w:World)(v':Value)(h:RdS w v' (l.drop 36))(h0:kdOf l=0):Head l w v' (l.drop 36) false (List.replicate 64 0) :=
 ⟨h,zCZ,fun _=>⟨by unfold lfOf;rw[if_neg (by omega)],by unfold zFP;rw[if_neg (by omega)],fun h=>by omega⟩,fun h=>by cases h⟩
theorem head_one(l:List Nat)(w:World)(h1:kdOf l=1)(h36:36≤l.length){k1 k2 l1 l2:List Nat}{v2:Value}{bad1 bad2:Bool}(hk1:k1.length=32)(hk2:k2.length=32)(hv2:RdS w v2 l2)
  (hb1:bad1=(false||decide ((l.drop 36).length<32))) (hl1:32≤(l.drop 36).length→k1=(l.drop 36).take 32∧l1=(l.drop 36).drop 32) (hs1:(l.drop 36).length<32→l1=l.drop 36)
  (hb2:bad2=(bad1||decide (l1.length<32))) (hl2:32≤l1.length→k2=l1.take 32∧l2=l1.drop 32):Head l w v2 l2 bad2 (k1++k2):=by
 refine⟨hv2,by simp[hk1,hk2],fun hb=>?_,fun hb hok=>?_⟩
 ·subst hb
  have e:bad1=false∧32≤l1.length:=by
   have:=hb2.symm;simp only[Bool.or_eq_false_iff,decide_eq_false_iff_not,Nat.not_lt] at this;exact this
  obtain⟨rfl,e2⟩:=e;have e1:32≤(l.drop 36).length:=by
   have:=hb1.symm;simp only[Bool.or_eq_false_iff,decide_eq_false_iff_not,Nat.not_lt] at this;exact this.2
  obtain⟨rfl,rfl⟩:=hl1 e1;obtain⟨rfl,rfl⟩:=hl2 e2;simp only[List.length_drop] at e1 e2;refine⟨?_,?_,fun _=>by omega⟩
  ·unfold lfOf
   rw[if_pos h1,show (64:Nat)=32+32 from rfl,List.take_add]
  ·unfold zFP
   rw[if_pos h1,List.drop_drop,List.drop_drop]
 ·have hle:=hok.2.2.1 h1
  have e1:32≤(l.drop 36).length:=by rw[List.length_drop];omega
  obtain⟨_,rfl⟩:=hl1 e1;have e2:32≤((l.drop 36).drop 32).length:=by simp only[List.length_drop];omega
  rw[hb2,hb1] at hb;simp only[Bool.false_or,Bool.or_eq_true,decide_eq_true_eq] at hb;omega
def LoopI(l:List Nat)(w:World)(v':Value)(l':List Nat)(bad':Bool)(lf':List Nat)(n:Nat)(xs:List Value):Prop :=
 RdS w v' l'∧lf'.length=64∧n≤257 ∧
  (bad'=false→lf'=lfOf l∧(kdOf l=1→100≤l.length)∧32*n≤(zFP l).length∧l'=(zFP l).drop (32*n)∧xs=zAJ ((zFP l).take (32*n)))∧(bad'=true→¬decOk l)
theorem Head.loop{l:List Nat}{w:World}{v':Value}{l':List Nat}{bad':Bool}{lf':List Nat}(h:Head l w v' l' bad' lf'):LoopI l w v' l' bad' lf' 0 [] :=
 ⟨h.1,h.2.1,by omega,fun hb=>⟨(h.2.2.1 hb).1,(h.2.2.1 hb).2.2,by omega,by rw[(h.2.2.1 hb).2.1];rfl,by simp[zAJ]⟩,h.2.2.2⟩
theorem LoopI.step{l:List Nat}{w:World}{v' v2:Value}{l' l2 k:List Nat}{bad2:Bool}{lf':List Nat}{n:Nat}{xs:List Value}(h:LoopI l w v' l' false lf' n xs)(hn:n≤256)(hne:0<l'.length)
  (hv2:RdS w v2 l2) (hb2:bad2=(false||decide (l'.length<32))) (hl2:32≤l'.length→k=l'.take 32∧l2=l'.drop 32):LoopI l w v2 l2 bad2 lf' (n+1) (xs++zAJ k):=by
 obtain⟨_,h64,_,hf,_⟩:=h;obtain⟨e1,e2,e3,e4,e5⟩:=hf rfl;rw[e4,List.length_drop] at hne hb2 hl2;refine⟨hv2,h64,by omega,fun hb=>?_,fun hb hok=>?_⟩
 ·subst hb
  have e6:32≤(zFP l).length - 32*n:=by
   have:=hb2.symm;simp only[Bool.or_eq_false_iff,decide_eq_false_iff_not,Nat.not_lt] at this;exact this.2
  obtain⟨rfl,rfl⟩:=hl2 e6;refine⟨e1,e2,by omega,?_,?_⟩
  ·rw[List.drop_drop];congr 1
  ·rw[e5,show 32*(n+1)=32*n+32 by omega,List.take_add,zCB]
 ·rw[hb2] at hb
  simp only[Bool.false_or,decide_eq_true_eq] at hb;have h5:=hok.2.2.2.1;omega
theorem LoopI.done{l:List Nat}{w:World}{v':Value}{l':List Nat}{lf':List Nat}{n:Nat}{xs:List Value}(h:LoopI l w v' l' false lf' n xs)(h0:l'.length=0):lf'=lfOf l∧(kdOf l=1→100≤l.length)∧(zFP l).length=32*n∧xs=zAJ (zFP l):=by
 obtain⟨e1,e2,e3,e4,e5⟩:=h.2.2.2.1 rfl;rw[e4,List.length_drop] at h0;refine⟨e1,e2,by omega,?_⟩;rw[e5,List.take_of_length_le (by omega)]
theorem LoopI.over{l:List Nat}{w:World}{v':Value}{l':List Nat}{lf':List Nat}{n:Nat}{xs:List Value}(h:LoopI l w v' l' false lf' n xs)(h0:0<l'.length)(hn:256<n):¬decOk l:=fun hok=>by
 obtain⟨e1,e2,e3,e4,e5⟩:=h.2.2.2.1 rfl;have h1:=h.2.2.1;rw[e4,List.length_drop] at h0;have h5:=hok.2.2.2.2.1;omega
theorem zFO:Tryz.prog.underlying 41=some (.slice 38):=by kernel_rfl
theorem bytesDig:(Tryz.prog.info? 38).map (·.bytes)=some 32:=by kernel_rfl
theorem sizeSlD:(Tryz.prog.info? 41).map (·.size)=some 1:=by kernel_rfl
theorem fillD(k:List Nat)(hk:k.length=32):Instr.fill (fun i=>some (i*32,32)) ((Array.range (1*32)).map ((Value.agg (kv zAH)).cells[·%(Value.agg (kv zAH)).cells.size]!)) [(0,.agg (kv k))]=some (kv k):=by
 have hz:((Array.range (1*32)).map ((Value.agg (kv zAH)).cells[·%(Value.agg (kv zAH)).cells.size]!)).size=32:=by simp
 generalize (Array.range (1*32)).map ((Value.agg (kv zAH)).cells[·%(Value.agg (kv zAH)).cells.size]!)=z at *;have hc:(Value.agg (kv k)).cells.size=32:=by show (kv k).size=32;rw[zAF,hk]
 rw[zEK (off:=0) (by rw[hc]) (by rw[hc,hz];decide)];have e:=zEB [] z.toList [] (.agg (kv k)) 0 rfl (by simp[hz,hc]);simp only[List.nil_append,List.append_nil,Array.toArray_toList] at e;rw[e];simp[Instr.fill,Value.cells]
theorem zGC{cs:Array Value}{v:Value}(h:v.cells.size=cs.size):zCT cs 0 v=v.cells:=by
 unfold zCT;rw[List.take_zero,List.nil_append,List.drop_eq_nil_of_le (by simp[h])];simp
theorem zEQ{w w':World}{base:Nat}{e:TypeId}{size n b:Nat}{v:Value}{xs:List Value}(h:w.ownsRow base e size v n xs)(hg:w.grownBy w' (some b))(hb:b<base):w'.ownsRow base e size v n xs:=by
 refine h.kept hg ?_
 cases hv:v.ownBlock with
 |none=>exact .inl rfl
 |some k =>
  refine .inr fun e=>?_
  have:=(h.lt k hv).1;injection e with e;omega
theorem zDO{w:World}{base:Nat}{e:TypeId}{size n:Nat}{v:Value}{xs:List Value}(h:w.ownsRow base e size v n xs):v.cells=#[v]:=by
 rcases h.2 with ⟨rfl,_⟩ | ⟨g,cap,cur,rfl,_⟩<;>rfl
theorem own_one{w:World}{base:Nat}{e:TypeId}{size n:Nat}{v:Value}{xs:List Value}(h:w.ownsRow base e size v n xs):v.oneCell'=true:=by
 rcases h.2 with ⟨rfl,_⟩ | ⟨g,cap,cur,rfl,_⟩<;>rfl
def sibN(w:World)(b off:Nat):Nat:=match w.cell? ⟨b,off,none⟩ with
 |some (.slice _ n _)=>n
 |_=>0
theorem sibN_eq{w w':World}{b off base:Nat}{e:TypeId}{size n:Nat}{v:Value}{xs:List Value}(hc:w.cell? ⟨b,off,none⟩=some v)(h:w'.ownsRow base e size v n xs):sibN w b off=n:=by
 unfold sibN;rw[hc];rcases h.2 with ⟨rfl,rfl⟩ | ⟨g,cap,cur,rfl,_⟩<;>rfl
def LoopR(l:List Nat)(w:World)(kd dp:Nat)(zc:Array Value)(b8 b6 b2 base:Nat)(wr:World):Prop :=
 ∃v' l' bad' lf' vs n xs,St w.heap.size w [(b8,zAB kd dp lf' (bmOf l) vs,43),(b6,#[v',.bool bad'],87),(b2,zc,43)] wr∧wr.ownsRow base 38 32 vs n xs∧base≤wr.heap.size∧Hid (LoopI l w v' l' bad' lf' n xs)
theorem builtReader(a:Option Addr)(n c:Nat):Tryz.prog.built 87 [(0,.slice a n c)]=some #[.slice a n c,.bool false]:=by kernel_rfl
set_option maxRecDepth 20000 in
theorem Decode_good(l:List Nat)(v:Value)(hby:∀x∈l,x<256)(w:World)(hv:RdS w v l)(hl36:36≤l.length)(h1:l.getD 0 0=1)(hkd:kdOf l=0∨kdOf l=1) :
  Calls Tryz.prog 12 #[v] w (DecPost l w):=by
 have HV:=Lib.hid hv;have hlm:=hv.1.1;obtain⟨a,c,rfl,hcap⟩:=hv.2;obtain⟨a',c',he,Hc⟩:=hv.1.open;obtain⟨rfl,rfl⟩:a=a'∧c=c':=by injection he with h1 h2 h3;exact⟨h1,h3⟩
 obtain⟨b,off,rfl,hc⟩:=Hc.out (by omega);have HZ:=Lib.hid zeroProof;have HB0:=Lib.hid builtProof0;have HS0:Hid ((zAB 0 0 (List.replicate 64 0) zAH (.slice none 0 0)).size=99):=zAO zCZ rfl;have H10:Hid (∀u∈(zAB 0 0 (List.replicate 64 0) zAH (.slice none 0 0)).toList,u.oneCell'=true):=zDI rfl;have HK1:Hid (∀wx,RdB wx (.slice (some ⟨b,off,none⟩) l.length c) l→Calls Tryz.prog 30 #[.slice (some ⟨b,off,none⟩) l.length c] wx fun e w'=>e=.returned (.tuple #[.int .i64 (kdOf l:Nat),.int .i64 0])∧w'=wx):=fun wx h=>by
  have h2:=KindC_calls l _ (by omega) hby wx h;rw[if_pos h1] at h2;exact h2
 have HC:Hid (∀wx,Below w.heap.size w wx→wx.cell? ⟨b,off+2,none⟩=some (.int .u8 (l.getD 2 0:Nat))∧wx.cell? ⟨b,off+3,none⟩=some (.int .u8 (l.getD 3 0:Nat))):=fun wx hb=>⟨hc wx hb 2 (by omega),hc wx hb 3 (by omega)⟩
 have hsl:∀wx,(Instr.slice 22 (.slice (some ⟨b,off,none⟩) l.length c) (some (.int .i64 4)) none none).run Tryz.prog wx=.ok (.slice (subA (some ⟨b,off,none⟩) c 4) (l.length - 4) (c - 4)) wx:=run_slice_from zCC zCN (some ⟨b,off,none⟩) l.length c .i64 4 (by omega);have HR4:Hid (RdS w (.slice (subA (some ⟨b,off,none⟩) c 4) (l.length - 4) (c - 4)) (l.drop 4)):=by
  have h:=hv.sub 4 l.length (by omega) (Nat.le_refl _);rw[List.take_of_length_le (by simp)] at h;exact h
 have HPt:=Lib.hid (fun rb wx (h:HasR rb (.slice (subA (some ⟨b,off,none⟩) c 4) (l.length - 4) (c - 4)) false wx) (hb:Below w.heap.size w wx)=>part_long rb _ (l.drop 4) false wx h (HR4.out.call hb) (by simp;omega));have HR36:Hid (RdS w (subV (.slice (subA (some ⟨b,off,none⟩) c 4) (l.length - 4) (c - 4)) 32 (l.drop 4).length) (l.drop 36)):=by
  have h:=HR4.out.sub 32 (l.drop 4).length (by simp;omega) (Nat.le_refl _);rw[List.take_of_length_le (by simp;omega),List.drop_drop] at h;exact h
 have Hx:Hid (l.getD 2 0<256∧l.getD 3 0<256):=by
  constructor
  ·rw[List.getD_eq_getElem?_getD,List.getElem?_eq_getElem (by omega:2<l.length)];exact hby _ (List.getElem_mem _)
  ·rw[List.getD_eq_getElem?_getD,List.getElem?_eq_getElem (by omega:3<l.length)];exact hby _ (List.getElem_mem _)
 have HbmK:Hid (Key (bmOf l)):=⟨by unfold bmOf;simp;omega,fun x hx=>hby x (List.mem_of_mem_drop (List.mem_of_mem_take hx))⟩
 have Hbm:Hid ((bmOf l).length=32):=HbmK.out.len;have HBb:=Lib.hid (builtProofB (kdOf l) (dpOf l) (bmOf l) Hbm.out);have Hdp:Hid (dpOf l=l.getD 2 0*256+l.getD 3 0):=rfl;have HbmE:Hid ((l.drop 4).take 32=bmOf l):=rfl;obtain⟨dP,hdP,haP⟩:=zGE;clear hv hby hc Hc he HR4;unfold maxLen at hlm;rw[HbmE.out] at HPt;generalize hR4:subV (.slice (subA (some ⟨b,off,none⟩) c 4) (l.length - 4) (c - 4)) 32 (l.drop 4).length=v36 at *;generalize l.getD 2 0=x2 at *;generalize l.getD 3 0=x3 at *;generalize subA (some ⟨b,off,none⟩) c 4=a4 at *;have HP:Hid (∀(c:Int)(w':World),(c=5∨c=6∨c=7)→¬decOk l→Below w.heap.size w w'→DecPost l w (.returned (.tuple #[.agg (zAB 0 0 (List.replicate 64 0) zAH (.slice none 0 0)),.int .i64 c])) w'):=fun c w' h1 h2 h3=>⟨.inr ⟨h2,c,h1,rfl⟩,h3⟩
 generalize hP:DecPost l w=R at *;generalize zAB 0 0 (List.replicate 64 0) zAH (.slice none 0 0)=zc at *;have hlt36:decide (((l.length:Nat):Int)<36)=false:=by simp;omega
 obtain⟨kd,hkdE⟩:∃kd,kdOf l=kd:=⟨_,rfl⟩
 obtain⟨dp,hdpE⟩:∃dp,dpOf l=dp:=⟨_,rfl⟩
 rw[hkdE] at HK1 hkd HBb;rw[hdpE] at HBb Hdp;have hw2:wrap64 ((x2:Nat):Int)=x2:=by have:=Hx.out;exact wrap64_ok _ (by omega)
 have hw3:wrap64 ((x3:Nat):Int)=x3:=by have:=Hx.out;exact wrap64_ok _ (by omega)
 have hw4:wrap64 ((x2:Nat)*256:Int)=(x2:Nat)*256:=by have:=Hx.out;exact wrap64_ok _ (by omega)
 have hor:bits .or .i64 ((x2:Nat)*256:Int) (x3:Nat)=(dp:Nat):=by have:=Hx.out;rw[Hdp.out];exact bits_or_i64 _ _ (by omega) (by omega)
 have Hpz:Hid ((zAB kd dp (List.replicate 64 0) (bmOf l) (.slice none 0 0)).size=99):=zAO zCZ Hbm.out;have Hp1:Hid (∀u∈(zAB kd dp (List.replicate 64 0) (bmOf l) (.slice none 0 0)).toList,u.oneCell'=true):=zDI rfl;have st:=St.init w;go_enter Tryz.func12,Tryz.ntmps12;go_upto_region 6 with (first
  |(refine zAE st rfl 43 rfl _ HZ.out ?_;intro b2 w1 st1;clear st)
  |(go_at_call 30;refine(HK1.out _ (HV.out.1.call st1.below)).mono ?_;rintro e w2 ⟨rfl,rfl⟩))
 go_cut [27] from 22 to 26 (fun s27 wx=>s27=.bool false∧St w.heap.size w [(b2,zc,43)] wx)
 case first =>
  rcases hkd with rfl | rfl
  ·go_wp2
   go_meet
   exact⟨rfl,st1⟩
  ·go_wp2
   go_meet
   exact⟨rfl,st1⟩
 case rest =>
 clear st1;obtain⟨rfl,st1⟩:=hcut;go_upto_region 10 with (first
  |(refine zAM rfl 87 _ rfl [(0,.slice a4 (l.length - 4) (c - 4))] ?_ _ (builtReader _ _ _) ?_;(·(simp[Act.eval];done)))
  |(refine zAD st1 rfl 87 _ rfl _ rfl ?_;intro b6 w3 st3;clear st1))
 go_cut [8] from 35 to 48 (fun s8 wx=>∃b8,s8=.pointer (some ⟨b8,0,none⟩)∧St w.heap.size w [(b8,zAB kd dp (List.replicate 64 0) (bmOf l) (.slice none 0 0),43),(b6,#[v36,.bool false],87),(b2,zc,43)] wx)
 case first =>
  have q:∀wx,Below w.heap.size w wx→wx.cell? ⟨b,off+2,none⟩=some (.int .u8 (x2:Nat))∧wx.cell? ⟨b,off+3,none⟩=some (.int .u8 (x3:Nat)):=HC.out;refine Mix2.wp_region_mix (J:=fun wx=>Below w.heap.size w wx) 15 (St w.heap.size w [(b6,#[.slice a4 (l.length - 4) (c - 4),.bool false],87),(b2,zc,43)]) zBL (by kernel_rfl) st3.drew ?_;intro F inv;refine Mix2.good_batch (f:=3) F St.up (fun _ h=>h.below) [0,1,2,3,4,5,6,7,8,9,10,11] _ _ inv (by kernel_rfl) ?_;clear inv st3
  iterate 2
   (refine Mix.wpUp_cons rfl (fun K hK=>?_);go_simp;apply zAU;· (intro wx hw;have q1:=q wx hw;go_simp;(try go_ints);(try go_simp);(try (rw[if_pos (by omega)]));(try go_simp);(first | done | rfl))
    refine hK _ ?_;clear hK K)
  iterate 1
   (refine Mix.wpUp_cons rfl (fun K hK=>?_);go_simp;apply zAU;· (intro wx hw;have q1:=q wx hw;go_simp;(try go_ints);(try go_simp);(try (rw[if_pos (by omega)]));(try go_simp);(first | done | rfl))
    refine hK _ ?_;clear hK K)
  iterate 2
   (refine Mix.wpUp_cons rfl (fun K hK=>?_);go_simp;apply zAU;· (intro wx hw;have q1:=q wx hw;go_simp;(try go_ints);(try go_simp);(try (rw[if_pos (by omega)]));(try go_simp);(first | done | rfl))
    refine hK _ ?_;clear hK K)
  iterate 1
   (refine Mix.wpUp_cons rfl (fun K hK=>?_);go_simp;apply zAU;· (intro wx hw;have q1:=q wx hw;go_simp;(try go_ints);(try go_simp);(try (rw[if_pos (by omega)]));(try go_simp);(first | done | rfl))
    refine hK _ ?_;clear hK K)
  iterate 4
   (refine Mix.wpUp_cons rfl (fun K hK=>?_);go_simp;apply zAU;· (intro wx hw;have q1:=q wx hw;go_simp;(try go_ints);(try go_simp);(try (rw[if_pos (by omega)]));(try go_simp);(first | done | rfl))
    refine hK _ ?_;clear hK K)
  iterate 2
   (refine Mix.wpUp_cons rfl (fun K hK=>?_);go_simp;apply zAU;· (intro wx hw;have q1:=q wx hw;go_simp;(try go_ints);(try go_simp);(try (rw[if_pos (by omega)]));(try go_simp);(first | done | rfl))
    refine hK _ ?_;clear hK K)
  refine Mix.wpUp_nil ?_;intro inv;refine Mix2.good_two (i:=12) (k:=14) (f:=2) (by kernel_rfl) inv (fun w5 st5=>?_) (fun w5 st5=>?_)
  ·clear inv q
   refine zAT rfl rfl 31 #[.pointer (some ⟨b6,0,none⟩)] (by go_simp) ?_;refine(HPt.out b6 w5 (st5.at (i:=0) rfl) st5.below).mono ?_;rintro e w6 ⟨rfl,hr,hg⟩;refine⟨_,rfl,St w.heap.size w [(b6,#[v36,.bool false],87),(b2,zc,43)],St.up,st5.turn (i:=0) rfl hg hr rfl,fun _ h=>h.below,fun inv=>?_⟩;clear st5 hg hr;refine Mix2.good_batch (f:=1) F St.up (fun _ h=>h.below) [13] _ _ inv (by kernel_rfl) ?_;clear inv
   (refine Mix.wpUp_cons rfl (fun K hK=>?_);go_simp;refine zFN 43 _ rfl [(0,.int .i64 kd),(1,.int .i64 dp),(3,.agg (kv (bmOf l)))] (by simp[Act.eval];done) _ HBb.out ?_
    refine hK _ ?_;clear hK K)
   refine Mix.wpUp_nil ?_;intro inv;refine Mix2.good_one (i:=14) (f:=0) (by kernel_rfl) inv (fun w7 st7=>?_);clear inv;refine mxOp_newA st7 rfl rfl 43 rfl _ HZ.out (fun b8 w8 st8=>?_);refine⟨_,St.up,st8,fun _ h=>h.below,fun inv=>?_⟩;clear st7 st8 inv F;refine⟨by kernel_rfl,fun w9 st9=>?_⟩;simp only[List.drop_succ_cons,List.drop_zero,Act.put,List.getElem_toArray,List.getElem_cons_succ,List.getElem_cons_zero,List.setIfInBounds_toArray,List.set_cons_succ,List.set_cons_zero];refine zAA st9 rfl 43 _ _ rfl 0 b8 rfl (.agg (zAB kd dp (List.replicate 64 0) (bmOf l) (.slice none 0 0))) rfl _ _ rfl (zAQ Hpz.out) (by show (zAB _ _ _ _ _).size=_;rw[Hpz.out,HS0.out]) Hp1.out _ rfl ?_;intro w10 st10;go_wp2
   go_meet
   exact⟨b8,rfl,st10⟩
  ·clear inv q
   refine mxOp_newA st5 rfl rfl 43 rfl _ HZ.out (fun b8 w6 st6=>?_);refine⟨_,St.up,st6,fun _ h=>h.below,fun inv=>?_⟩;clear st5 st6;refine Mix2.good_one (i:=12) (f:=1) (by kernel_rfl) inv (fun w6 st6=>?_);clear inv;refine zAT rfl rfl 31 #[.pointer (some ⟨b6,0,none⟩)] (by go_simp) ?_;refine(HPt.out b6 w6 (st6.at (i:=1) rfl) st6.below).mono ?_;rintro e w7 ⟨rfl,hr,hg⟩;refine⟨_,rfl,St w.heap.size w [(b8,zc,43),(b6,#[v36,.bool false],87),(b2,zc,43)],St.up,st6.turn (i:=1) rfl hg hr rfl,fun _ h=>h.below,fun inv=>?_⟩;clear st6 hg hr;refine Mix2.good_batch (f:=0) F St.up (fun _ h=>h.below) [13] _ _ inv (by kernel_rfl) ?_;clear inv
   (refine Mix.wpUp_cons rfl (fun K hK=>?_);go_simp;refine zFN 43 _ rfl [(0,.int .i64 kd),(1,.int .i64 dp),(3,.agg (kv (bmOf l)))] (by simp[Act.eval];done) _ HBb.out ?_
    refine hK _ ?_;clear hK K)
   refine Mix.wpUp_nil ?_;intro inv;clear inv F;refine⟨by kernel_rfl,fun w9 st9=>?_⟩;simp only[List.drop_succ_cons,List.drop_zero];refine zAA st9 rfl 43 _ _ rfl 0 b8 rfl (.agg (zAB kd dp (List.replicate 64 0) (bmOf l) (.slice none 0 0))) rfl _ _ rfl (zAQ Hpz.out) (by show (zAB _ _ _ _ _).size=_;rw[Hpz.out,HS0.out]) Hp1.out _ rfl ?_;intro w10 st10;go_wp2
   go_meet
   exact⟨b8,rfl,st10⟩
 case rest =>
 obtain⟨b8,rfl,st8⟩:=hcut
 go_upto_if 50 with fail
 go_cut [] from 51 to 58 (fun wx=>∃v' l' bad' lf',St w.heap.size w [(b8,zAB kd dp lf' (bmOf l) (.slice none 0 0),43),(b6,#[v',.bool bad'],87),(b2,zc,43)] wx∧Hid (Head l w v' l' bad' lf'))
 case first =>
  have hkd2:=hkd;rcases hkd with rfl | rfl
  ·go_wp2
   go_meet
   exact⟨v36,l.drop 36,false,_,st8,head_zero l w v36 HR36.out hkdE⟩
  ·clear hkd2
   generalize hz64:(List.replicate 64 0:List Nat)=z64 at *;have Hz64:Hid (z64.length=64):=by unfold Hid;rw[←hz64];rfl
   generalize hbmv:bmOf l=bm at *
   go_wp2_with (first
    |(go_at_call 31;refine(part_any b6 v36 (l.drop 36) false w _ (st8.at (i:=1) rfl) HR36.out st8.below).mono ?_;rintro e w9 ⟨k1,v1,l1,bad1,rfl,hr1,hg1,hp1⟩;have st9:=st8.turn (i:=1) rfl hg1 hr1 rfl;clear st8 hg1 hr1;have hp1:=Lib.hid hp1)
    |(refine zAZ st9 rfl 37 _ _ rfl 0 b8 2 rfl (.agg (kv k1)) rfl _ _ rfl (zAX hp1.out.1) (by show 2+(kv k1).size≤_;rw[zAF,hp1.out.1,zAO Hz64.out Hbm.out];decide) (zBJ _) _ (proofCells_putKey Hz64.out k1 hp1.out.1) _ rfl ?_;intro w10 st10 _;clear st9)
    |(go_at_call 31;refine(part_any b6 v1 l1 bad1 w _ (st10.at (i:=1) rfl) hp1.out.2.1 st10.below).mono ?_;rintro e w11 ⟨k2,v2,l2,bad2,rfl,hr2,hg2,hp2⟩;have st11:=st10.turn (i:=1) rfl hg2 hr2 rfl;clear st10 hg2 hr2;have hp2:=Lib.hid hp2;have Hlk:Hid ((k1++z64.drop 32).length=64):=(by unfold Hid;rw[List.length_append,List.length_drop,hp1.out.1,Hz64.out]))
    |(refine zAZ st11 rfl 38 _ _ rfl 0 b8 34 rfl (.agg (kv k2)) rfl _ _ rfl (zCA hp2.out.1) (by show 34+(kv k2).size≤_;rw[zAF,hp2.out.1,zAO Hlk.out Hbm.out];decide) (zBJ _) _ (proofCells_putVal Hlk.out k2 hp2.out.1) _ rfl ?_;intro w12 st12 _;clear st11))
   go_meet
   refine⟨v2,l2,bad2,k1++k2,?_,head_one l w hkdE hl36 hp1.out.1 hp2.out.1 hp2.out.2.1 hp1.out.2.2.1 hp1.out.2.2.2.1 hp1.out.2.2.2.2 hp2.out.2.2.1 hp2.out.2.2.2.1⟩;have e:(k1++z64.drop 32).take 32=k1:=List.take_left' hp1.out.1;rw[e] at st12;exact st12
 case rest =>
 clear st8;obtain⟨v',l',bad',lf',st8,HH⟩:=hcut;have hb8:b8<wc.heap.size:=zAG (st8.at (i:=0) rfl);have hb6:b6<wc.heap.size:=zAG (st8.at (i:=1) rfl);have hb2:b2<wc.heap.size:=zAG (st8.at (i:=2) rfl);have hbase:=st8.size;have hLI:=Lib.hid HH.out.loop;clear HH;generalize hzz:wc.heap.size=base at *;go_wp2
 go_loopw [] (fun wr=>LoopR l w kd dp zc b8 b6 b2 base wr) (fun wr=>300 - sibN wr b8 98)
 case atStart=>exact⟨v',l',bad',lf',_,0,[],st8,World.ownsRow_nil _ _ _ _,Nat.le_of_eq hzz.symm,hLI⟩
 case round =>
  clear hLI st8;unfold LoopR at hrel;obtain⟨v1,l1,bad1,lf1,vs,n,xs,st9,hown,hbs,hLI⟩:=hrel;obtain⟨a1,c1,rfl,hc1⟩:=hLI.out.1.2;obtain⟨av,cv,rfl,hvcap⟩:∃av cv,vs=.slice av n cv∧n≤cv:=by
   rcases hown.2 with ⟨rfl,rfl⟩ | ⟨g,cap,cur,rfl,_,_,hle,_⟩
   ·exact⟨none,0,rfl,Nat.le_refl _⟩
   ·exact⟨_,cap,rfl,hle⟩
  have Hlf:Hid (lf1.length=64):=hLI.out.2.1;have Hn:Hid (n≤257):=hLI.out.2.2.1;have Hl1:Hid (l1.length≤9223372036854775807):=hLI.out.1.1.1;have Hps:Hid ((zAB kd dp lf1 (bmOf l) (.slice av n cv)).size=99):=zAO Hlf.out Hbm.out;have hcR0:=st9.cell (i:=1) rfl 0;have hcR1:=st9.cell (i:=1) rfl 1;have hcS:=(st9.cell (i:=0) rfl 98).trans (zCX Hlf.out Hbm.out);have HM:=Lib.hid (sibN_eq hcS hown)
  cases bad1
  ·by_cases h0:l1.length=0
   ·have HNE:=Lib.hid (hLI.out.done h0)
    have h0':((l1.length:Nat):Int)=0:=by omega
    have HCk:=Lib.hid (fun wx=>Check_calls kd dp lf1 (bmOf l) av n cv Hlf.out HbmK.out wx)
    by_cases hck:zGV kd dp lf1 (bmOf l) n=0
    ·rw[hck] at HCk
     go_wp2_with (first
      |(refine zAC rfl 43 _ rfl b8 rfl _ hdP haP _ _ (st9.at (i:=0) rfl) (zAQ Hps.out) ?_)
      |(go_at_call 32;refine(HCk.out _).mono ?_;rintro e w10 ⟨rfl,hbel⟩;have st10:=St.call st9 hbel;have hown10:=zAY hown hbel;clear hbel st9 hown)
      |(refine zAC rfl 43 _ rfl b8 rfl _ hdP haP _ _ (st10.at (i:=0) rfl) (zAQ Hps.out) ?_)
      |(refine zAZ st10 rfl 43 _ _ rfl 2 b2 0 rfl (.agg (zAB kd dp lf1 (bmOf l) (.slice av n cv))) rfl _ _ rfl (zAQ Hps.out) (by show 0+(zAB _ _ _ _ _).size≤_;rw[Hps.out,HS0.out];decide) (zDI rfl) _ (zGC (by show (zAB _ _ _ _ _).size=_;rw[Hps.out,HS0.out])) _ rfl ?_;intro w11 st11 hg11;have hown11:=zEQ hown10 hg11 hb2;clear st10 hown10 hg11))
     refine zEP rfl b2 _ _ ⟨dP,hdP,haP⟩ rfl (st11.at (i:=2) rfl) (zAQ Hps.out) _ rfl rfl ?_;obtain⟨e1,e2,e3,e4⟩:=HNE.out;have e5:(zFP l).length / 32=n:=by omega
     have hn:=Hn.out;subst e1;rw[e4] at hown11;rw[←hP];refine⟨.inl ⟨⟨hl36,h1,e2,by omega,by omega,?_⟩,.slice av n cv,?_,?_,fun k e=>Nat.le_trans hbase (hown11.lt k e).1⟩,st11.below⟩
     ·rw[hkdE,hdpE,e5];exact hck
     ·rw[hkdE,hdpE];rfl
     ·rw[e5];exact RdD.own e3 (by omega) hown11
    ·have hne:(zGV kd dp lf1 (bmOf l) n != 0)=true:=by simpa using hck
     have HNO:Hid (¬decOk l):=fun hok=>by
      obtain⟨e1,e2,e3,e4⟩:=HNE.out;have h6:=hok.2.2.2.2.2;rw[←e1,hkdE,hdpE,show (zFP l).length / 32=n by omega] at h6;exact hck h6
     generalize zGV kd dp lf1 (bmOf l) n=ck at *
     go_wp2_with (first
      |(refine zAC rfl 43 _ rfl b8 rfl _ hdP haP _ _ (st9.at (i:=0) rfl) (zAQ Hps.out) ?_)
      |(go_at_call 32;refine(HCk.out _).mono ?_;rintro e w10 ⟨rfl,hbel⟩;have st10:=St.call st9 hbel;have hown10:=zAY hown hbel;clear hbel st9 hown)
      |(refine zAM rfl 43 _ rfl [] ?_ _ HB0.out ?_;(·(simp[Act.eval];done)))
      |(refine zAA st10 rfl 43 _ _ rfl 2 b2 rfl (.agg zc) rfl _ _ rfl (zAQ HS0.out) rfl H10.out _ rfl ?_;intro w11 st11;clear st10))
     exact zEP rfl b2 _ _ ⟨dP,hdP,haP⟩ rfl (st11.at (i:=2) rfl) (zAQ HS0.out) _ rfl rfl (HP.out 5 _ (.inl rfl) HNO.out st11.below)
   ·have h0':(0:Int)<(l1.length:Nat):=by omega
    by_cases hn:n≤256
    ·have hn':((n:Nat):Int)≤256:=by omega
     go_wp2;have q:∀wx:World,wx.cell? ⟨b8,98,none⟩=some (Value.slice av n cv)→wx.cell? ⟨b8,98,none⟩=some (Value.slice av n cv):=fun _ h=>h
     refine Mix2.wp_region_mix (J:=fun wx=>wx.cell? ⟨b8,98,none⟩=some (.slice av n cv)) 5 (fun wx=>St w.heap.size w [(b8,zAB kd dp lf1 (bmOf l) (.slice av n cv),43),(b6,#[.slice a1 l1.length c1,.bool false],87),(b2,zc,43)] wx∧wx.ownsRow base 38 32 (.slice av n cv) n xs∧base≤wx.heap.size) zBL (by kernel_rfl) ⟨st9.drew,zAY hown (Below.refl _ _).drew,hbs⟩ ?_;intro F inv;refine Mix2.good_batch (f:=2) F (fun wx wy h hb=>⟨h.1.call hb,zAY h.2.1 hb,Nat.le_trans h.2.2 hb.size⟩) (fun wx h=>(h.1.cell (i:=0) rfl 98).trans (zCX Hlf.out Hbm.out)) [0,1,2] _ _ inv (by kernel_rfl) ?_;clear inv st9 hown hbs hcR0 hcR1 hcS
     iterate 3
      (refine Mix.wpUp_cons rfl (fun K hK=>?_);go_simp;apply zAU;· (intro wx hw;have q1:=q wx hw;go_simp;(try go_ints);(try go_simp);(try (rw[if_pos (by omega)]));(try go_simp);(first | done | rfl))
       refine hK _ ?_;clear hK K)
     refine Mix.wpUp_nil ?_;intro inv;refine Mix2.good_one (i:=3) (f:=1) (by kernel_rfl) inv (fun w10 st10=>?_);clear inv q;obtain⟨st10,hown10,hbs10⟩:=st10;refine zAT rfl rfl 31 #[.pointer (some ⟨b6,0,none⟩)] (by go_simp) ?_;refine(part_any b6 _ l1 false w _ (st10.at (i:=1) rfl) hLI.out.1 st10.below).mono ?_;rintro e w11 ⟨k,v2,l2,bad2,rfl,hr2,hg2,hp2⟩;have HLI2:=Lib.hid (hLI.out.step hn (by omega) hp2.2.1 hp2.2.2.1 hp2.2.2.2.1);have Hk:=Lib.hid hp2.1;refine⟨_,rfl,fun wx=>St w.heap.size w [(b8,zAB kd dp lf1 (bmOf l) (.slice av n cv),43),(b6,#[v2,.bool bad2],87),(b2,zc,43)] wx∧wx.ownsRow base 38 32 (.slice av n cv) n xs∧base≤wx.heap.size,fun wx wy h hb=>⟨h.1.call hb,zAY h.2.1 hb,Nat.le_trans h.2.2 hb.size⟩,⟨st10.turn (i:=1) rfl hg2 hr2 rfl,zEQ hown10 hg2 hb6,Nat.le_trans hbs10 hg2.size⟩,fun wx h=>(h.1.cell (i:=0) rfl 98).trans (zCX Hlf.out Hbm.out),fun inv=>?_⟩;clear st10 hown10 hbs10 hg2 hr2 hp2;refine Mix2.good_one (i:=4) (f:=0) (by kernel_rfl) inv (fun w12 st12=>?_);clear inv;obtain⟨st12,hown12,hbs12⟩:=st12
     simp only[Act.put,List.getElem_toArray,List.getElem_cons_succ,List.getElem_cons_zero,List.setIfInBounds_toArray,List.set_cons_succ,List.set_cons_zero];refine zBQ st12 rfl rfl 41 1 _ rfl 38 zFO _ 32 zCG zBV (by decide) (by decide) [(0,.agg (kv k))] (by simp[Act.eval];done) _ (fillD k Hk.out) (fun b9 w13 st13 hb13=>?_);refine⟨fun wx=>St w.heap.size w ((b9,kv k,38)::[(b8,zAB kd dp lf1 (bmOf l) (.slice av n cv),43),(b6,#[v2,.bool bad2],87),(b2,zc,43)]) wx∧wx.ownsRow base 38 32 (.slice av n cv) n xs∧base≤wx.heap.size,fun wx wy h hb=>⟨h.1.call hb,zAY h.2.1 hb,Nat.le_trans h.2.2 hb.size⟩,⟨st13,zAY hown12 hb13,Nat.le_trans hbs12 hb13.size⟩,fun wx h=>(h.1.cell (i:=1) rfl 98).trans (zCX Hlf.out Hbm.out),fun inv=>?_⟩;clear st12 st13 hown12 hbs12 hb13 inv F;refine⟨by kernel_rfl,fun w14 st14=>?_⟩;obtain⟨st14,hown14,hbs14⟩:=st14;simp only[List.drop_succ_cons,List.drop_zero,Act.put,List.getElem_toArray,List.getElem_cons_succ,List.getElem_cons_zero,List.setIfInBounds_toArray,List.set_cons_succ,List.set_cons_zero];have hst:=st14.at (i:=0) rfl
     have Hdr:Hid (St w.heap.size w [(b8,zAB kd dp lf1 (bmOf l) (.slice av n cv),43),(b6,#[v2,.bool bad2],87),(b2,zc,43)] w14):=st14.drop;clear st14
     go_wp2_with (first
      |(at_builtin
        refine zCL (base:=base) Hdr.out (by simp;omega) hbase rfl _ _ 41 rfl 38 _ 32 32 zFO zCG zBV bytesDig rfl (by decide) (.slice av n cv) n xs rfl hown14 b9 1 1 (kv k) 38 rfl (by rw[zAF,Hk.out]) hst (zBJ _) (by have:=Hn.out;unfold maxLen;omega) (by have:=Hn.out;omega) hbs14 ?_;intro v15 w15 st15 hown15 _ hbs15;clear Hdr hown14 hbs14 hst)
      |(refine zAZ st15 rfl 41 _ _ rfl 0 b8 98 rfl v15 rfl _ _ rfl (by rw[(zDO hown15)];exact sizeSlD) (by rw[(zDO hown15),Hps.out];simp) (by rw[(zDO hown15)];simpa using own_one hown15) _ (proofCells_putSib Hlf.out Hbm.out _ (zDO hown15)) _ rfl ?_
        intro w16 st16 hg16;have hown16:=zEQ hown15 hg16 hb8;have hbs16:=Nat.le_trans hbs15 hg16.size;clear st15 hown15 hbs15 hg16))
     go_roundw
     case rel =>
      (repeat apply Exists.intro)
      refine⟨⟨v2,l2,bad2,lf1,v15,n+1,_,st16,hown16,hbs16,HLI2⟩,?_⟩;rfl
     case measure =>
      have h1:=sibN_eq ((st16.cell (i:=0) rfl 98).trans (zCX Hlf.out Hbm.out)) hown16;have h2:=HM.out
      show 300 - sibN w16 b8 98<300 - sibN wr b8 98
      rw[h1,h2];omega
    ·have hn':(256:Int)<(n:Nat):=by omega
     have HNO:Hid (¬decOk l):=hLI.out.over (by omega) (by omega)
     go_wp2_with
     (first
      |(refine zAM rfl 43 _ rfl [] ?_ _ HB0.out ?_;(·(simp[Act.eval];done)))
      |(refine zAA st9 rfl 43 _ _ rfl 2 b2 rfl (.agg zc) rfl _ _ rfl (zAQ HS0.out) rfl H10.out _ rfl ?_;intro w10 st10;clear st9))
     exact zEP rfl b2 _ _ ⟨dP,hdP,haP⟩ rfl (st10.at (i:=2) rfl) (zAQ HS0.out) _ rfl rfl (HP.out 5 _ (.inl rfl) HNO.out st10.below)
  ·have HNO:Hid (¬decOk l):=hLI.out.2.2.2.2 rfl
   by_cases h0:l1.length=0
   ·have h0':((l1.length:Nat):Int)=0:=by omega
    go_wp2_with
     (first
      |(refine zAM rfl 43 _ rfl [] ?_ _ HB0.out ?_;(·(simp[Act.eval];done)))
      |(refine zAA st9 rfl 43 _ _ rfl 2 b2 rfl (.agg zc) rfl _ _ rfl (zAQ HS0.out) rfl H10.out _ rfl ?_;intro w10 st10;clear st9))
    exact zEP rfl b2 _ _ ⟨dP,hdP,haP⟩ rfl (st10.at (i:=2) rfl) (zAQ HS0.out) _ rfl rfl (HP.out 5 _ (.inl rfl) HNO.out st10.below)
   ·have h0':(0:Int)<(l1.length:Nat):=by omega
    go_wp2_with
     (first
      |(refine zAM rfl 43 _ rfl [] ?_ _ HB0.out ?_;(·(simp[Act.eval];done)))
      |(refine zAA st9 rfl 43 _ _ rfl 2 b2 rfl (.agg zc) rfl _ _ rfl (zAQ HS0.out) rfl H10.out _ rfl ?_;intro w10 st10;clear st9))
    exact zEP rfl b2 _ _ ⟨dP,hdP,haP⟩ rfl (st10.at (i:=2) rfl) (zAQ HS0.out) _ rfl rfl (HP.out 5 _ (.inl rfl) HNO.out st10.below)
theorem Decode_calls(l:List Nat)(v:Value)(hby:∀x∈l,x<256)(w:World)(hv:RdS w v l) :
  Calls Tryz.prog 12 #[v] w (DecPost l w):=by
 by_cases h:l.length<36∨l.getD 0 0≠1∨(kdOf l≠0∧kdOf l≠1)
 ·exact Decode_bad l v hby w hv h
 ·exact Decode_good l v hby w hv (by omega) (by omega) (by omega)
end
section
set_option maxHeartbeats 1000000
open Go Go.RowKit
attribute [local irreducible] Inv.wpInv Mix.wpUp
theorem inv_loadP{P:Program}{o:Oper}{a:Act}{I:World→Prop}{F:Value→Prop}(ty:TypeId)(x:Operand)(ho:o.op=.load ty x)
  (g off n:Nat) (hx:a.eval x=.pointer (some ⟨g,off,none⟩)) (hagg:∃d,P.underlying ty=some d∧zGJ d=true) (cs:Array Value) (t:TypeId)
  (hg:∀w,I w→w.heap[g]?=some (.cells cs t (0,0))) (hi:(P.info? ty).map (·.size)=some n) (hle:off+n≤cs.size) (res:Array Value) (hres:cs.extract off (off+n)=res) (hF:F (.agg res)):∃v,Inv.OpInv P I o a v∧F v:=by
 obtain⟨d,hu,hd⟩:=hagg;subst hres;refine⟨_,fun w hw=>?_,hF⟩;unfold execOp;have hl:=zDD (P:=P) w g off n t ty cs (0,0) d (hg w hw) hu hd hi hle;simp only[ho,hx,Instr.loadAt,Instr.sureAddr,Sem.run_bind,Sem.run_pure,Result.andThen_ok,hl];exact⟨rfl,hw⟩
def supF(kd dp:Int)(lf k d:List Nat)(present:Bool):Bool :=
 if present then kd==1&&decide (lf=k++d) else if kd==1 then !decide (lf.take 32=k)&&decide (dp≤((zEX (lf.take 32) k:Nat):Int)) else kd==0
set_option maxRecDepth 20000 in
theorem Supports_present(kd dp:Int)(lf bm k d:List Nat)(s:Value)(hl:lf.length=64)(hb:bm.length=32)(hk:k.length=32)(hd:d.length=32)(w:World) :
  Calls Tryz.prog 146 #[.agg (zAB kd dp lf bm s),.agg (kv k),.agg (kv d),.bool true] w fun e w'=>e=.returned (.bool (supF kd dp lf k d true))∧Below w.heap.size w w':=by
 have H0:Hid ((zAB kd dp lf bm s)[0]?=some (.int .i64 kd)):=zEC;have HS:Hid ((zAB kd dp lf bm s).size=99):=zAO hl hb;have HE:=Lib.hid (zJB (kd:=kd) (dp:=dp) (bm:=bm) (s:=s) hl);have HB:=Lib.hid (builtLeaf k d hk hd);have hq:=eqlLeaf lf (k++d) hl (by simp[hk,hd]);have hg:=guardLeaf;have Hk:=Lib.hid hk;have Hd:=Lib.hid hd;have hF:supF kd dp lf k d true=(kd==1&&decide (lf=k++d)):=rfl;rw[hF];clear hk hd hF;generalize zAB kd dp lf bm s=pc at *;generalize kv lf=lv at *;generalize k++d=kd2 at *;have st:=St.init w
 cases hk1:(kd==1)
 ·go_enter Tryz.func146,Tryz.ntmps146
  go_wp2_with (first
   |(refine zAD st rfl 43 _ rfl pc rfl ?_;intro b4 w1 st1;clear st)
   |(refine zAD st1 rfl 37 _ rfl (kv k) rfl ?_;intro b5 w2 st2;clear st1)
   |(refine zAD st2 rfl 38 _ rfl (kv d) rfl ?_;intro b6 w3 st3;clear st2;have hc:=(st3.cell (i:=2) rfl 0).trans H0.out))
  go_ret;refine⟨?_,st3.below⟩
  first | rfl | (simp;done)
 ·go_enter Tryz.func146,Tryz.ntmps146
  go_wp2_with (first
   |(refine zAD st rfl 43 _ rfl pc rfl ?_;intro b4 w1 st1;clear st)
   |(refine zAD st1 rfl 37 _ rfl (kv k) rfl ?_;intro b5 w2 st2;clear st1)
   |(refine zAD st2 rfl 38 _ rfl (kv d) rfl ?_;intro b6 w3 st3;clear st2;have hc:=(st3.cell (i:=2) rfl 0).trans H0.out)
   |(refine zAP rfl 40 _ rfl b4 2 64 rfl aggLeaf _ _ _ (st3.at (i:=2) rfl) sizeLeaf0 (by rw[HS.out];simp) _ HE.out ?_)
   |(refine zAC rfl 37 _ rfl b5 rfl _ zBF rfl _ _ (st3.at (i:=1) rfl) (zAX Hk.out) ?_)
   |(refine zAC rfl 38 _ rfl b6 rfl _ zEE rfl _ _ (st3.at (i:=0) rfl) (zCA Hd.out) ?_)
   |(refine zAM rfl 40 _ rfl (zBB 0 [.agg (kv k),.agg (kv d)]) ?_ _ HB.out ?_;(·first | (simp[Act.eval,Act.put,zBB];done) | rfl)))
  go_ret;refine⟨?_,st3.below⟩
  first | rfl | (simp;done)
set_option maxRecDepth 20000 in
theorem Supports_absent(kd dp:Int)(lf bm k d:List Nat)(s:Value)(hl:lf.length=64)(hlb:∀x∈lf,x<256)(hb:bm.length=32)(hk:Key k)(w:World) :
  Calls Tryz.prog 146 #[.agg (zAB kd dp lf bm s),.agg (kv k),.agg (kv d),.bool false] w fun e w'=>e=.returned (.bool (supF kd dp lf k d false))∧Below w.heap.size w w':=by
 have H0:Hid ((zAB kd dp lf bm s)[0]?=some (.int .i64 kd)):=zEC;have H1:Hid ((zAB kd dp lf bm s)[1]?=some (.int .i64 dp)):=zFG;have HS:Hid ((zAB kd dp lf bm s).size=99):=zAO hl hb;have HE:=Lib.hid (zFQ (kd:=kd) (dp:=dp) (bm:=bm) (s:=s) hl);have hlk:Key (lf.take 32):=⟨by simp;omega,fun x hx=>hlb x (List.mem_of_mem_take hx)⟩
 have hg:=zIP;have Hk:=Lib.hid hk.len;have hF:supF kd dp lf k d false=if kd==1 then !decide (lf.take 32=k)&&decide (dp≤((zEX (lf.take 32) k:Nat):Int)) else kd==0:=rfl
 rw[hF];generalize zAB kd dp lf bm s=pc at *;have st:=St.init w
 cases hk1:(kd==1)
 ·go_enter Tryz.func146,Tryz.ntmps146
  go_wp2_with (first
   |(refine zAD st rfl 43 _ rfl pc rfl ?_;intro b4 w1 st1;clear st)
   |(refine zAD st1 rfl 37 _ rfl (kv k) rfl ?_;intro b5 w2 st2;clear st1)
   |(refine zAD st2 rfl 38 _ rfl (kv d) rfl ?_;intro b6 w3 st3;clear st2;have hc:=(st3.cell (i:=2) rfl 0).trans H0.out))
  go_ret;refine⟨?_,st3.below⟩
  first | rfl | (simp;done)
 ·by_cases hkk:lf.take 32=k
  ·have hq:∀w,(Op.equalIn 10000 37 (.agg (kv (lf.take 32))) (.agg (kv k))).run Tryz.prog w=.ok true w:=fun w=>by rw[eqlKey _ k hlk.len hk.len w];simp[hkk]
   have hR:(if true=true then !decide (lf.take 32=k)&&decide (dp≤((zEX (lf.take 32) k:Nat):Int)) else kd==0)=false:=by simp[hkk]
   rw[hR];generalize kv (lf.take 32)=kl at *;clear hlk hk;go_enter Tryz.func146,Tryz.ntmps146
   go_wp2_with (first
    |(refine zAD st rfl 43 _ rfl pc rfl ?_;intro b4 w1 st1;clear st)
    |(refine zAD st1 rfl 37 _ rfl (kv k) rfl ?_;intro b5 w2 st2;clear st1)
    |(refine zAD st2 rfl 38 _ rfl (kv d) rfl ?_;intro b6 w3 st3;clear st2;have hc:=(st3.cell (i:=2) rfl 0).trans H0.out))
   refine zBH 15 st3 zBL (by kernel_rfl) ?_;intro I hI hI';have q:∀wx,I wx→wx.cell? ⟨b4,1,none⟩=some (.int .i64 dp):=fun wx hw=>((hI wx hw).cell (i:=2) rfl 1).trans H1.out
   simp only[List.take_succ_cons,List.take_zero,List.drop_succ_cons,List.drop_zero]
   iterate 2
    (refine Inv.wpInv_step (fun K hK=>?_);go_simp;apply zAL;· (intro wx hw;go_simp;(try go_ints);(try go_simp);(try (rw[if_pos (by omega)]));(try go_simp);(first | done | rfl))
     refine hK _ ?_;clear hK K)
   (refine Inv.wpInv_step (fun K hK=>?_);go_simp;refine inv_loadP 37 _ rfl b4 2 32 rfl zBN _ _ (fun wx hw=>(hI wx hw).at (i:=2) rfl) zBC (by rw[HS.out];simp) _ HE.out ?_
    refine hK _ ?_;clear hK K)
   (refine Inv.wpInv_step (fun K hK=>?_);go_simp;refine zDP 37 _ rfl b5 rfl _ zBF rfl _ _ (fun wx hw=>(hI wx hw).at (i:=1) rfl) (zAX Hk.out) ?_
    refine hK _ ?_;clear hK K)
   iterate 2
    (refine Inv.wpInv_step (fun K hK=>?_);go_simp;apply zAL;· (intro wx hw;go_simp;(try go_ints);(try go_simp);(try (rw[if_pos (by omega)]));(try go_simp);(first | done | rfl))
     refine hK _ ?_;clear hK K)
   iterate 8 (refine Inv.wpInv_step (fun K hK=>?_);go_simp;refine hK _ ?_;clear hK K)
   iterate 1
    (refine Inv.wpInv_step (fun K hK=>?_);go_simp;apply zAL;· (intro wx hw;go_simp;(try go_ints);(try go_simp);(try (rw[if_pos (by omega)]));(try go_simp);(first | done | rfl))
     refine hK _ ?_;clear hK K)
   clear q hI hI';refine Inv.wpInv_nil ?_;intro w4 st4;clear st3;go_wp2;go_ret;exact⟨rfl,st4.below⟩
  ·have hq:∀w,(Op.equalIn 10000 37 (.agg (kv (lf.take 32))) (.agg (kv k))).run Tryz.prog w=.ok false w:=fun w=>by rw[eqlKey _ k hlk.len hk.len w];simp[hkk]
   have hR:(if true=true then !decide (lf.take 32=k)&&decide (dp≤((zEX (lf.take 32) k:Nat):Int)) else kd==0)=decide (dp≤((zEX (lf.take 32) k:Nat):Int)):=by simp[hkk]
   have HCm:=Lib.hid (fun wx=>Common_diff (lf.take 32) k hlk hk hkk wx);rw[hR];generalize kv (lf.take 32)=kl at *;generalize zEX (lf.take 32) k=cm at *;clear hlk hk;go_enter Tryz.func146,Tryz.ntmps146
   go_wp2_with (first
    |(refine zAD st rfl 43 _ rfl pc rfl ?_;intro b4 w1 st1;clear st)
    |(refine zAD st1 rfl 37 _ rfl (kv k) rfl ?_;intro b5 w2 st2;clear st1)
    |(refine zAD st2 rfl 38 _ rfl (kv d) rfl ?_;intro b6 w3 st3;clear st2;have hc:=(st3.cell (i:=2) rfl 0).trans H0.out))
   refine zBH 15 st3 zBL (by kernel_rfl) ?_;intro I hI hI';have q:∀wx,I wx→wx.cell? ⟨b4,1,none⟩=some (.int .i64 dp):=fun wx hw=>((hI wx hw).cell (i:=2) rfl 1).trans H1.out
   simp only[List.take_succ_cons,List.take_zero,List.drop_succ_cons,List.drop_zero]
   iterate 2
    (refine Inv.wpInv_step (fun K hK=>?_);go_simp;apply zAL;· (intro wx hw;go_simp;(try go_ints);(try go_simp);(try (rw[if_pos (by omega)]));(try go_simp);(first | done | rfl))
     refine hK _ ?_;clear hK K)
   (refine Inv.wpInv_step (fun K hK=>?_);go_simp;refine inv_loadP 37 _ rfl b4 2 32 rfl zBN _ _ (fun wx hw=>(hI wx hw).at (i:=2) rfl) zBC (by rw[HS.out];simp) _ HE.out ?_
    refine hK _ ?_;clear hK K)
   (refine Inv.wpInv_step (fun K hK=>?_);go_simp;refine zDP 37 _ rfl b5 rfl _ zBF rfl _ _ (fun wx hw=>(hI wx hw).at (i:=1) rfl) (zAX Hk.out) ?_
    refine hK _ ?_;clear hK K)
   iterate 2
    (refine Inv.wpInv_step (fun K hK=>?_);go_simp;apply zAL;· (intro wx hw;go_simp;(try go_ints);(try go_simp);(try (rw[if_pos (by omega)]));(try go_simp);(first | done | rfl))
     refine hK _ ?_;clear hK K)
   iterate 2
    (refine Inv.wpInv_step (fun K hK=>?_);go_simp;apply zAL;· (intro wx hw;go_simp;(try go_ints);(try go_simp);(try (rw[if_pos (by omega)]));(try go_simp);(first | done | rfl))
     refine hK _ ?_;clear hK K)
   (refine Inv.wpInv_step (fun K hK=>?_);go_simp;refine inv_loadP 37 _ rfl b4 2 32 rfl zBN _ _ (fun wx hw=>(hI wx hw).at (i:=2) rfl) zBC (by rw[HS.out];simp) _ HE.out ?_
    refine hK _ ?_;clear hK K)
   (refine Inv.wpInv_step (fun K hK=>?_);go_simp;refine zDP 37 _ rfl b5 rfl _ zBF rfl _ _ (fun wx hw=>(hI wx hw).at (i:=1) rfl) (zAX Hk.out) ?_
    refine hK _ ?_;clear hK K)
   (refine Inv.wpInv_step (fun K hK=>?_);go_simp;refine zDF hI hI' 148 #[.agg kl,.agg (kv k)] ?_ (fun wx stx=>HCm.out wx) ?_;· (intro wx hw;go_simp)
    refine hK _ ?_;clear hK K)
   iterate 4
    (refine Inv.wpInv_step (fun K hK=>?_);go_simp;apply zAL;· (intro wx hw;have q1:=q wx hw;go_simp;(try go_ints);(try go_simp);(try (rw[if_pos (by omega)]));(try go_simp);(first | done | rfl))
     refine hK _ ?_;clear hK K)
   clear q hI hI';refine Inv.wpInv_nil ?_;intro w4 st4;clear st3;go_wp2;go_ret;exact⟨rfl,st4.below⟩
end
end Go.Proofs.YtlcngapphloafaaGreatDoor
