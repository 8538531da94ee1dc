/- Parts of the proof that are used by the claim: Do1, Do2. No condition is added here. -/
import Derived.Test.YtlcngapphloafaaGreatDoorPk27
import Derived.Test.YtlcngapphloafaaGreatDoorPk29
import Derived.Test.YtlcngapphloafaaGreatDoorPk26
import Derived.Test.YtlcngapphloafaaGreatDoorPk23
import Derived.Test.YtlcngapphloafaaGreatDoorPk31
namespace Go.Proofs.YtlcngapphloafaaGreatDoor
section
set_option maxHeartbeats 4000000
open Go Go.RowKit
attribute [local irreducible] Inv.wpInv Mix.wpUp zCI
theorem updc_data(u:Upd):∀x∈updc u,isData x:=fun x hx=>by
 simp only[updc,List.mem_cons,List.not_mem_nil,or_false] at hx;rcases hx with rfl | rfl | rfl<;>trivial
structure DoIn (bt:Value→List Nat)(bits:Int)(tb hb cb:Nat)(n:Int)(m:List (List Nat×Value))(p:Option Addr)(vm:Value)(w:World):Prop where
 g:GrowS bt bits tb hb cb n m p w
 rd:RdEs w vm m
 K:HasK zAK w
 et:GotET w
 B:0≤bits∧bits≤256
 n:0≤n∧n≤1000000
 m:m.length≤5000
def zEF(bt:Value→List Nat)(bits:Int)(tb hb cb:Nat)(n:Int)(m:List (List Nat×Value))(w:World)(e:Ending)(w':World):Prop :=
 ∃(v':Value) (b:Bool) (m':List (List Nat×Value)) (p':Option Addr) (n':Int),e=.returned (.tuple #[v',.bool b])∧GrowS bt bits tb hb cb n' m' p' w'∧RdEs w' v' m'∧m'.length≤m.length+20∧n≤n'∧n'≤n+31000∧DataKept w w'∧w.heap.size≤w'.heap.size∧∀B,B≤tb→B≤cb→Below B w w'
theorem BtOf.len{w:World}{a:Option Addr}{n c:Nat}{l:List Nat}(h:BtOf w (.slice a n c) l):n=l.length:=by
 obtain⟨_,_,_,_,he⟩:=h;injection he
theorem BtOf.call{w w':World}{v:Value}{l:List Nat}(h:BtOf w v l)(hb:Below w.heap.size w w'):BtOf w' v l:=⟨h.1.call hb,h.2⟩
theorem BtOf.data{w w':World}{v:Value}{l:List Nat}(h:BtOf w v l)(hd:DataKept w w'):BtOf w' v l:=⟨h.1.data hd,h.2⟩
section
variable {bt:Value→List Nat} {bits n:Int} {tb hb cb:Nat} {m:List (List Nat×Value)} {p:Option Addr} {vm:Value} {w w1 w2:World}
theorem DoIn.call(D:DoIn bt bits tb hb cb n m p vm w)(hb':Below w.heap.size w w1):DoIn bt bits tb hb cb n m p vm w1:=⟨D.g.call hb',D.rd.call hb',D.K.call hb',D.et.call hb',D.B,D.n,D.m⟩
theorem DoIn.tl(D:DoIn bt bits tb hb cb n m p vm w):tb≤w.heap.size:=Nat.le_of_lt (zAG D.g.tr)
theorem DoIn.same(D:DoIn bt bits tb hb cb n m p vm w)(hb':Below w.heap.size w w1)(b:Bool):zEF bt bits tb hb cb n m w (.returned (.tuple #[vm,.bool b])) w1 :=
 ⟨vm,b,m,p,n,rfl,D.g.call hb',D.rd.call hb',by omega,by omega,by omega,DataKept.call hb',hb'.size,fun _ h _=>hb'.mono (Nat.le_trans h D.tl)⟩
set_option maxRecDepth 20000 in
theorem Do_putOk(D:DoIn bt bits tb hb cb n m p vm w)(ka va ba:Option Addr)(kc vn vc bn bc:Nat)(hk:BtOf w (.slice ka 32 kc) (bt (.slice ka 32 kc)))(hv:BtOf w (.slice va vn vc) (bt (.slice va vn vc)))(hvn:vn≤65535) :
  Calls Tryz.prog 37 #[.pointer (some ⟨tb,0,none⟩),vm,.agg #[.int .i64 0,.slice ka 32 kc,.slice va vn vc,.slice ba bn bc]] w (zEF bt bits tb hb cb n m w):=by
 have hkl:=hk.len;have hvl:=hv.len;have hkey:Key (bt (.slice ka 32 kc)):=⟨hkl.symm,hk.2.1⟩
 have HRt:Hid (∀wx,Calls Tryz.prog 66 #[.slice ka 32 kc,.slice va vn vc] wx fun e w'=>e=.returned (.int .i64 0)∧w'=wx):=fun wx=>by
  have:=zFA ka va 32 kc vn vc wx
  rwa [show zFF 32 vn=0 by unfold zFF;rw[if_pos rfl,if_pos hvn]] at this
 have HPut:Hid (∀wx,Below w.heap.size w wx→Calls Tryz.prog 20 #[.pointer (some ⟨tb,0,none⟩),.slice ka 32 kc,.slice va vn vc] wx (TrPost zAK bits tb hb cb n 2000 (zJK (bt (.slice ka 32 kc)) (bt (.slice va vn vc)) 0 (zCI 257 (zFH bt m) 0)) .nilIface wx)):=fun wx hbx=>by
  have:=TPutT_calls zAK tb (bt (.slice ka 32 kc)) (bt (.slice va vn vc)) (zCI 257 (zFH bt m) 0) p (.slice ka 32 kc) va vc hb cb bits n wx (D.g.tr.call hbx) (D.g.hh.call hbx) D.B ⟨D.n.1,by have:=D.n.2;omega⟩ hkey hv.2.1 (by rw[←hvl];exact hvn) (hk.1.call hbx) (by rw[←hvl];exact hv.1.call hbx) (D.K.call hbx) (D.g.rep.call hbx) (D.g.way hkey)
  rwa [←hvl] at this
 have HOf:Hid (∀(w1 w2 wx:World),Below w.heap.size w w1→DataKept w1 w2→Below w2.heap.size w2 wx→Calls Tryz.prog 68 #[.slice ka 32 kc] wx fun e w'=>e=.returned (.agg (kv (bt (.slice ka 32 kc))))∧Below wx.heap.size wx w'):=fun w1 w2 wx h1 h2 h3=>by
  have:=OfR_calls (bt (.slice ka 32 kc)) (.slice ka 32 kc) wx (by omega) (((hk.1.call h1).data h2).call h3)
  rwa [List.take_of_length_le (by omega)] at this
 have HPr:Hid (∀(w1 w2 wx:World),Below w.heap.size w w1→DataKept w1 w2→Below w2.heap.size w2 wx→Calls Tryz.prog 23 #[vm,.agg (kv (bt (.slice ka 32 kc))),.slice va vn vc] wx fun e w'=>∃v',e=.returned v'∧RdEs w' v' (putE m (bt (.slice ka 32 kc)) (.slice va vn vc))∧Below wx.heap.size wx w'):=fun w1 w2 wx h1 h2 h3 =>
  PutR_es m vm _ va vn vc wx hkey D.g.goodK (by have:=D.m;omega) (((RdEs.data D.g.sl (D.rd.call h1) h2)).call h3)
 have HPo:Hid (∀(w1 w2 w3:World)(v':Value) (p':Option Addr) (n':Int),Below w.heap.size w w1→HasTr tb hb p' w2→RepT zAK bits w2 p' (zJK (bt (.slice ka 32 kc)) (bt (.slice va vn vc)) 0 (zCI 257 (zFH bt m) 0))→HasH hb cb bits n' w2→n≤n'→n'≤n+2000→DataKept w1 w2→w1.heap.size≤w2.heap.size→(∀B,B≤tb→B≤cb→Below B w1 w2)→Below w2.heap.size w2 w3→RdEs w3 v' (putE m (bt (.slice ka 32 kc)) (.slice va vn vc))→zEF bt bits tb hb cb n m w (.returned (.tuple #[v',.bool false])) w3):=fun w1 w2 w3 v' p' n' h1 h2 h3 h4 h5 h6 h7 h8 h9 h10 h11 =>
  ⟨v',false,_,p',n',rfl,((D.g.call h1).put hkey ⟨hv.1.call h1,hv.2.1,by omega⟩ h2 h3 h4 h7).call h10,h11,by have:=putE_length m (bt (.slice ka 32 kc)) (.slice va vn vc);omega,h5,by omega,((DataKept.call h1).trans h7).trans (DataKept.call h10),Nat.le_trans h1.size (Nat.le_trans h8 h10.size),fun B hB1 hB2=>((h1.mono (Nat.le_trans hB1 D.tl)).trans (h9 B hB1 hB2)).trans (h10.mono (Nat.le_trans hB1 (Nat.le_of_lt (zAG h2))))⟩
 generalize zEF bt bits tb hb cb n m w=R at *;generalize zJK (bt (.slice ka 32 kc)) (bt (.slice va vn vc)) 0 (zCI 257 (zFH bt m) 0)=T at *;generalize putE m (bt (.slice ka 32 kc)) (.slice va vn vc)=m' at *;generalize bt (.slice ka 32 kc)=k at *;clear D hk hv hvl hkl hkey hvn;have st:=St.init w;go_enter Tryz.func37,Tryz.ntmps37;go_upto_region 1 with (first
  |(refine zAD st rfl 99 _ rfl _ rfl ?_;intro b5 w1 st1;clear st))
 have hc0:w1.cell? ⟨b5,0,none⟩=some (.int .i64 0):=st1.cell (i:=0) rfl 0;have hc1:w1.cell? ⟨b5,1,none⟩=some (.slice ka 32 kc):=st1.cell (i:=0) rfl 1;have hc2:w1.cell? ⟨b5,2,none⟩=some (.slice va vn vc):=st1.cell (i:=0) rfl 2;have Hb1:=Lib.hid st1.below;clear st1
 go_wp2_with (first
  |(go_at_call 66;refine(HRt.out _).mono ?_;rintro e w2 ⟨rfl,hwq⟩;obtain rfl:=hwq.symm;clear hwq)
  |(go_at_call 20;(refine(HPut.out _ Hb1.out).mono ?_);(rintro e w4 ⟨p2,n2,rfl,ht2,hr2,hh2,ha2,hz2,hd2,hs2,hB2⟩);(have d1:=hd2 b5 1 (.slice ka 32 kc) trivial hc1;have d2:=hd2 b5 2 (.slice va vn vc) trivial hc2;clear hc0 hc1 hc2))
  |(go_at_call 67;refine(wrong_ok _ _ _).mono ?_;rintro e w3 ⟨rfl,hwq⟩;obtain rfl:=hwq.symm;clear hwq))
 have HOf2:=Lib.hid (fun wx h=>HOf.out _ _ wx Hb1.out hd2 h);have HPr2:=Lib.hid (fun wx h=>HPr.out _ _ wx Hb1.out hd2 h);have HPo2:=Lib.hid (fun w3 v' h10 h11=>HPo.out _ _ w3 v' p2 n2 Hb1.out ht2 hr2 hh2 ha2 hz2 hd2 hs2 hB2 h10 h11);clear HOf HPr HPo ht2 hr2 hh2 ha2 hz2 hd2 hs2 hB2 HPut HRt;have st2:=St.init w4;refine zBH 6 st2 zBL (by kernel_rfl) ?_;intro I hI hI';have q:∀wx,I wx→wx.cell? ⟨b5,1,none⟩=some (.slice ka 32 kc)∧wx.cell? ⟨b5,2,none⟩=some (.slice va vn vc):=fun wx hw=>by
  have h:=(hI wx hw).below;exact⟨by rw[h.cell (block_lt_of_cell d1)];exact d1,by rw[h.cell (block_lt_of_cell d2)];exact d2⟩
 simp only[List.take_succ_cons,List.take_zero,List.drop_succ_cons,List.drop_zero]
 iterate 3
  (refine Inv.wpInv_step (fun K hK=>?_);go_simp;apply zAL;· (intro wx hw;have q1:=q wx hw;go_simp;(try go_ints);(try go_simp);(try (rw[if_pos (by omega)]));(try go_simp);(first | done | rfl))
   refine hK _ ?_;clear hK K)
 (refine Inv.wpInv_step (fun K hK=>?_);go_simp;refine zDF hI hI' 68 #[.slice ka 32 kc] ?_ (fun wx stx=>(HOf2.out wx stx.below)) ?_;· (intro wx hw;go_simp)
  refine hK _ ?_;clear hK K)
 iterate 2
  (refine Inv.wpInv_step (fun K hK=>?_);go_simp;apply zAL;· (intro wx hw;have q1:=q wx hw;go_simp;(try go_ints);(try go_simp);(try (rw[if_pos (by omega)]));(try go_simp);(first | done | rfl))
   refine hK _ ?_;clear hK K)
 refine Inv.wpInv_nil ?_;clear q hI hI' st2;intro w6 st6
 go_wp2_with (first
  |(go_at_call 23;refine(HPr2.out _ st6.below).mono ?_;rintro e w7 ⟨v7,rfl,hrd7,hb7⟩))
 exact HPo2.out _ _ (st6.below.trans (hb7.mono st6.below.size)) hrd7
set_option maxRecDepth 20000 in
theorem Do_putBad(D:DoIn bt bits tb hb cb n m p vm w)(ka va ba:Option Addr)(kn kc vn vc bn bc:Nat)(hk:BtOf w (.slice ka kn kc) (bt (.slice ka kn kc)))(hvn:vn≤1000000)(hbad:BadKV kn vn) :
  Calls Tryz.prog 37 #[.pointer (some ⟨tb,0,none⟩),vm,.agg #[.int .i64 0,.slice ka kn kc,.slice va vn vc,.slice ba bn bc]] w (zEF bt bits tb hb cb n m w):=by
 have hkl:=hk.len;obtain⟨code,hcode,hr⟩:∃code:Int,code≠0∧zFF kn vn=code:=⟨_,by
  unfold zFF;rcases hbad with h | h
  ·rw[if_neg h];decide
  ·by_cases h2:kn=32
   ·rw[if_pos h2,if_neg (by omega)];decide
   ·rw[if_neg h2];decide,rfl⟩
 have HRt:Hid (∀wx,Calls Tryz.prog 66 #[.slice ka kn kc,.slice va vn vc] wx fun e w'=>e=.returned (.int .i64 code)∧w'=wx):=fun wx=>by
  have:=zFA ka va kn kc vn vc wx
  rwa [hr] at this
 have HPut:Hid (∀wx,Below w.heap.size w wx→Calls Tryz.prog 20 #[.pointer (some ⟨tb,0,none⟩),.slice ka kn kc,.slice va vn vc] wx (TrBad (String.toUTF8 "put") wx)):=fun wx hbx=>TPut_bad tb (bt (.slice ka kn kc)) _ va vn vc hvn wx (hk.1.call hbx) (by rw[←hkl];exact hbad)
 have HW:Hid (∀v c wx,Below w.heap.size w wx→IsErr wx v [(String.toUTF8 "put",0)] (.iface 31 (.int .i64 c))→Calls Tryz.prog 67 #[v,.string (String.toUTF8 "put"),.int .i64 0,.int .i64 code] wx (BoolPost wx)):=fun v c wx hbx h=>wrong_err _ 0 0 c code hcode v wx (D.et.call hbx) h
 have HPo:Hid (∀(b:Bool)(w1:World),Below w.heap.size w w1→zEF bt bits tb hb cb n m w (.returned (.tuple #[vm,.bool b])) w1):=fun b w1 h=>D.same h b
 generalize zEF bt bits tb hb cb n m w=R at *;clear D hk hkl hvn hbad hr;have st:=St.init w;go_enter Tryz.func37,Tryz.ntmps37;go_upto_region 1 with (first
  |(refine zAD st rfl 99 _ rfl _ rfl ?_;intro b5 w1 st1;clear st))
 have hc0:w1.cell? ⟨b5,0,none⟩=some (.int .i64 0):=st1.cell (i:=0) rfl 0;have hc1:w1.cell? ⟨b5,1,none⟩=some (.slice ka kn kc):=st1.cell (i:=0) rfl 1;have hc2:w1.cell? ⟨b5,2,none⟩=some (.slice va vn vc):=st1.cell (i:=0) rfl 2;have Hb1:=Lib.hid st1.below;clear st1
 go_wp2_with (first
  |(go_at_call 66;refine(HRt.out _).mono ?_;rintro e w2 ⟨rfl,hwq⟩;obtain rfl:=hwq.symm;clear hwq)
  |(go_at_call 20;refine(HPut.out _ Hb1.out).mono ?_;rintro e w2 ⟨v2,c2,rfl,hie,hb2⟩;have hb12:=Hb1.out.trans (hb2.mono Hb1.out.size))
  |(go_at_call 67;refine(HW.out v2 c2 _ hb12 hie).mono ?_;rintro e w3 ⟨b3,rfl,hb3⟩;have hb13:=hb12.trans (hb3.mono hb12.size)))
 all_goals exact HPo.out _ _ hb13
end
end
section
set_option maxHeartbeats 4000000
open Go Go.RowKit
attribute [local irreducible] Inv.wpInv Mix.wpUp zCI
def GetBad(w:World)(e:Ending)(w':World):Prop:=∃(v:Value) (code:Int),e=.returned (.tuple #[.slice none 0 0,.bool false,v])∧IsErr w' v [(String.toUTF8 "get",0)] (.iface 31 (.int .i64 code))∧Below w.heap.size w w'
set_option maxRecDepth 20000 in
theorem TGet_bad2(tb:Nat)(kl:List Nat)(v:Value)(w:World)(hv:RdB w v kl)(hbad:kl.length≠32) :
  Calls Tryz.prog 70 #[.pointer (some ⟨tb,0,none⟩),v] w (GetBad w):=by
 have HP:Hid (∀(v:Value)(code:Int) (w':World),IsErr w' v [(String.toUTF8 "get",0)] (.iface 31 (.int .i64 code))→Below w.heap.size w w'→GetBad w (.returned (.tuple #[.slice none 0 0,.bool false,v])) w'):=fun v code w' h1 h2=>⟨v,code,rfl,h1,h2⟩
 generalize GetBad w=R at *;have HS:=Lib.hid (start_bad tb (String.toUTF8 "get") kl v none 0 0 (by omega) w hv (.inl hbad));obtain⟨ze,hze,hz0⟩:=zEA;clear hv hbad;have st:=St.init w;go_enter Tryz.func70,Tryz.ntmps70
 go_wp2_with (first
  |(go_at_call 47;refine HS.out.mono ?_;rintro e w1 ⟨ec,v1,code,rfl,hes,he1,her,hbel⟩;have st1:=St.call st hbel;have HEs:=Lib.hid hes;have HE1:=Lib.hid he1;obtain⟨et,eu,hev⟩:=her.iface;have HEr:=Lib.hid her;clear st hbel hes he1 her;subst hev)
  |((with_reducible refine zAW 52 ?_);refine zIW st1 rfl 52 rfl (.agg ze) hz0 ?_;intro b7 w2 st2 hbg hb2;have HEr2:=Lib.hid (HEr.out.call hb2);clear st1 HEr hbg hb2)
  |((with_reducible refine zAN 52 ?_);refine zCW st2 rfl 52 _ _ rfl 0 b7 rfl (.agg ec) rfl _ _ rfl (zBU HEs.out) (by show ec.size=ze.size;rw[HEs.out,hze]) HE1.out _ rfl ?_;intro w3 st3 hg3;have HEr3:=Lib.hid (HEr2.out.turn (st2.at (i:=0) rfl) (by decide) hg3);clear st2 HEr2 hg3))
 go_ret3;exact HP.out _ _ _ HEr3.out st3.below
theorem wrong_any(op:ByteArray)(i:Int)(v:Value)(w:World)(h:v=.nilIface∨∃t u,v=.iface t u):Calls Tryz.prog 67 #[v,.string op,.int .i64 i,.int .i64 0] w (BoolPost w):=by
 rcases h with rfl | ⟨t,u,rfl⟩
 ·exact(wrong_ok op i w).mono fun e w' ⟨h1,h2⟩=>⟨false,h1,by rw[h2];exact Below.refl _ _⟩
 ·exact(wrong_zero t u op i w).mono fun e w' ⟨h1,h2⟩=>⟨true,h1,by rw[h2];exact Below.refl _ _⟩
section
variable {bt:Value→List Nat} {bits n:Int} {tb hb cb:Nat} {m:List (List Nat×Value)} {p:Option Addr} {vm:Value} {w w1 w2:World}
set_option maxRecDepth 20000 in
theorem Do_getOk(D:DoIn bt bits tb hb cb n m p vm w)(ka va ba:Option Addr)(kc vn vc bn bc:Nat)(hk:BtOf w (.slice ka 32 kc) (bt (.slice ka 32 kc))) :
  Calls Tryz.prog 37 #[.pointer (some ⟨tb,0,none⟩),vm,.agg #[.int .i64 1,.slice ka 32 kc,.slice va vn vc,.slice ba bn bc]] w (zEF bt bits tb hb cb n m w):=by
 have hkl:=hk.len;have hkey:Key (bt (.slice ka 32 kc)):=⟨hkl.symm,hk.2.1⟩
 have HRt:Hid (∀wx,Calls Tryz.prog 66 #[.slice ka 32 kc,.slice none 0 0] wx fun e w'=>e=.returned (.int .i64 0)∧w'=wx):=fun wx=>zFA ka none 32 kc 0 0 wx
 have HOf:Hid (∀(wx:World),Below w.heap.size w wx→Calls Tryz.prog 68 #[.slice ka 32 kc] wx fun e w'=>e=.returned (.agg (kv (bt (.slice ka 32 kc))))∧Below wx.heap.size wx w'):=fun wx h=>by
  have:=OfR_calls (bt (.slice ka 32 kc)) (.slice ka 32 kc) wx (by omega) (hk.1.call h)
  rwa [List.take_of_length_le (by omega)] at this
 have HGet:Hid (∀(wx:World),Below w.heap.size w wx→Calls Tryz.prog 69 #[vm,.agg (kv (bt (.slice ka 32 kc)))] wx (GetPost wx m (bt (.slice ka 32 kc)) wx)):=fun wx h=>GetR_es bt m vm _ wx hkl.symm (D.g.ge.call h) (by have:=D.m;omega) (D.rd.call h)
 have HTG:Hid (∀wx,Below w.heap.size w wx→Calls Tryz.prog 70 #[.pointer (some ⟨tb,0,none⟩),.slice ka 32 kc] wx (GetPostT wx)):=fun wx hbx=>TGetT_calls zAK bits tb hb _ hkey _ p _ wx (D.g.tr.call hbx) (hk.1.call hbx) (D.g.rep.call hbx) (D.g.way hkey)
 have HPo:Hid (∀(b:Bool)(w1:World),Below w.heap.size w w1→zEF bt bits tb hb cb n m w (.returned (.tuple #[vm,.bool b])) w1):=fun b w1 h=>D.same h b
 generalize zEF bt bits tb hb cb n m w=R at *;generalize bt (.slice ka 32 kc)=k at *;clear D hk hkl hkey;obtain⟨has,hhas⟩:∃has,has=m.any fun x=>decide (x.1=k):=⟨_,rfl⟩
 unfold GetPost at HGet;rw[←hhas] at HGet;clear hhas;have st:=St.init w;go_enter Tryz.func37,Tryz.ntmps37;go_upto_region 1 with (first
  |(refine zAD st rfl 99 _ rfl _ rfl ?_;intro b5 w1 st1;clear st))
 have hc0:w1.cell? ⟨b5,0,none⟩=some (.int .i64 1):=st1.cell (i:=0) rfl 0;have hc1:w1.cell? ⟨b5,1,none⟩=some (.slice ka 32 kc):=st1.cell (i:=0) rfl 1;have Hb1:=Lib.hid st1.below;clear st1
 go_wp2_with (first
  |(go_at_call 66;refine(HRt.out _).mono ?_;rintro e w2 ⟨rfl,hwq⟩;obtain rfl:=hwq.symm;clear hwq)
  |(go_at_call 68;refine(HOf.out _ Hb1.out).mono ?_;rintro e w2 ⟨rfl,hb2⟩;have hb12:=Hb1.out.trans (hb2.mono Hb1.out.size);have d1:=(hb2.cell (block_lt_of_cell hc1)).trans hc1;have d0:=(hb2.cell (block_lt_of_cell hc0)).trans hc0;clear hb2 hc0 hc1)
  |(go_at_call 69;refine(HGet.out _ hb12).mono ?_;rintro e w3 ⟨hb3,s3,l3,rfl,hr3⟩;have hs3:=hr3.call hb3;have hb13:=hb12.trans (hb3.mono hb12.size);have e1:=(hb3.cell (block_lt_of_cell d1)).trans d1;have e0:=(hb3.cell (block_lt_of_cell d0)).trans d0;clear hb3 d0 d1 hr3)
  |(go_at_call 70;refine(HTG.out _ hb13).mono ?_;rintro e w4 ⟨s4,l4,ok4,v4,rfl,hr4,hb4,hv4⟩;have HW4:=Lib.hid (fun wx=>wrong_any (String.toUTF8 "get") 0 v4 wx (hv4.imp id (fun ⟨_,h⟩=>h.iface)));have hs34:=hs3.call hb4;have hb14:=hb13.trans (hb4.mono hb13.size);clear hb4 hv4 hs3 e0 e1)
  |(go_at_call 67;refine(HW4.out _).mono ?_;rintro e w5 ⟨b5',rfl,hb5⟩;have hS5:=Lib.hid (SameR_calls _ _ _ _ w5 (hr4.call hb5) (hs34.call hb5));have hb15:=hb14.trans (hb5.mono hb14.size);clear hb5 hr4 hs34)
  |(go_at_call 71;refine hS5.out.mono ?_;rintro e w6 ⟨rfl,hb6⟩;have hb16:=hb15.trans (hb6.mono hb15.size)))
 all_goals first
  |exact HPo.out _ _ hb16
  |exact HPo.out _ _ hb15
set_option maxRecDepth 20000 in
theorem Do_getBad(D:DoIn bt bits tb hb cb n m p vm w)(ka va ba:Option Addr)(kn kc vn vc bn bc:Nat)(hk:BtOf w (.slice ka kn kc) (bt (.slice ka kn kc)))(hbad:kn≠32) :
  Calls Tryz.prog 37 #[.pointer (some ⟨tb,0,none⟩),vm,.agg #[.int .i64 1,.slice ka kn kc,.slice va vn vc,.slice ba bn bc]] w (zEF bt bits tb hb cb n m w):=by
 have hkl:=hk.len;have HRt:Hid (∀wx,Calls Tryz.prog 66 #[.slice ka kn kc,.slice none 0 0] wx fun e w'=>e=.returned (.int .i64 2)∧w'=wx):=fun wx=>by
  have:=zFA ka none kn kc 0 0 wx
  rwa [show zFF kn 0=2 by unfold zFF;rw[if_neg hbad]] at this
 have HTG:Hid (∀wx,Below w.heap.size w wx→Calls Tryz.prog 70 #[.pointer (some ⟨tb,0,none⟩),.slice ka kn kc] wx (GetBad wx)):=fun wx hbx=>TGet_bad2 tb _ _ wx (hk.1.call hbx) (by omega)
 have HW:Hid (∀v c wx,Below w.heap.size w wx→IsErr wx v [(String.toUTF8 "get",0)] (.iface 31 (.int .i64 c))→Calls Tryz.prog 67 #[v,.string (String.toUTF8 "get"),.int .i64 0,.int .i64 2] wx (BoolPost wx)):=fun v c wx hbx h=>wrong_err _ 0 0 c 2 (by decide) v wx (D.et.call hbx) h
 have HSm:Hid (∀wx,Calls Tryz.prog 71 #[.slice none 0 0,.slice none 0 0] wx fun e w'=>e=.returned (.bool true)∧Below wx.heap.size wx w'):=fun wx=>by
  have:=SameR_calls [] [] _ _ wx (RdB.nil wx) (RdB.nil wx)
  simpa using this
 have HPo:Hid (∀(b:Bool)(w1:World),Below w.heap.size w w1→zEF bt bits tb hb cb n m w (.returned (.tuple #[vm,.bool b])) w1):=fun b w1 h=>D.same h b
 generalize zEF bt bits tb hb cb n m w=R at *;clear D hk hkl hbad;have st:=St.init w;go_enter Tryz.func37,Tryz.ntmps37;go_upto_region 1 with (first
  |(refine zAD st rfl 99 _ rfl _ rfl ?_;intro b5 w1 st1;clear st))
 have hc0:w1.cell? ⟨b5,0,none⟩=some (.int .i64 1):=st1.cell (i:=0) rfl 0;have hc1:w1.cell? ⟨b5,1,none⟩=some (.slice ka kn kc):=st1.cell (i:=0) rfl 1;have Hb1:=Lib.hid st1.below;clear st1
 go_wp2_with (first
  |(go_at_call 66;refine(HRt.out _).mono ?_;rintro e w2 ⟨rfl,hwq⟩;obtain rfl:=hwq.symm;clear hwq)
  |(go_at_call 70;refine(HTG.out _ Hb1.out).mono ?_;rintro e w4 ⟨v4,c4,rfl,hie,hb4⟩;have hb14:=Hb1.out.trans (hb4.mono Hb1.out.size);clear hb4)
  |(go_at_call 67;refine(HW.out v4 c4 _ hb14 hie).mono ?_;rintro e w5 ⟨b5',rfl,hb5⟩;have hb15:=hb14.trans (hb5.mono hb14.size))
  |(go_at_call 71;refine(HSm.out _).mono ?_;rintro e w6 ⟨rfl,hb6⟩;have hb16:=hb15.trans (hb6.mono hb15.size)))
 all_goals first
  |exact HPo.out _ _ hb16
  |exact HPo.out _ _ hb15
end
end
end Go.Proofs.YtlcngapphloafaaGreatDoor
