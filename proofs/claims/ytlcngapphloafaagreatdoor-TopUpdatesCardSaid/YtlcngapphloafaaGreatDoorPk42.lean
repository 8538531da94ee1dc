/- Parts of the proof that are used by the claim: Do3, Grown. No condition is added here. -/
import Derived.Test.YtlcngapphloafaaGreatDoorPk32
import Derived.Test.YtlcngapphloafaaGreatDoorPk41
import Derived.Test.YtlcngapphloafaaGreatDoorPk31
import Derived.Test.YtlcngapphloafaaGreatDoorPk29
namespace Go.Proofs.YtlcngapphloafaaGreatDoor
section
set_option maxHeartbeats 4000000
open Go Go.RowKit
attribute [local irreducible] Inv.wpInv Mix.wpUp zCI
section
variable {bt:Value→List Nat} {bits n:Int} {tb hb cb:Nat} {m:List (List Nat×Value)} {p:Option Addr} {vm:Value} {w w1 w2:World}
set_option maxRecDepth 20000 in
theorem Do_delHas(D:DoIn bt bits tb hb cb n m p vm w)(ka va ba:Option Addr)(kc vn vc bn bc:Nat)(hk:BtOf w (.slice ka 32 kc) (bt (.slice ka 32 kc)))(hany:(m.any fun x=>decide (x.1=bt (.slice ka 32 kc)))=true) :
  Calls Tryz.prog 37 #[.pointer (some ⟨tb,0,none⟩),vm,.agg #[.int .i64 2,.slice ka 32 kc,.slice va vn vc,.slice ba bn bc]] w (zEF bt bits tb hb cb n m w):=by
 have hkl:=hk.len;have hkey:Key (bt (.slice ka 32 kc)):=⟨hkl.symm,hk.2.1⟩
 have HRt:Hid (∀wx,Calls Tryz.prog 66 #[.slice ka 32 kc,.slice none 0 0] wx fun e w'=>e=.returned (.int .i64 0)∧w'=wx):=fun wx=>zFA ka none 32 kc 0 0 wx
 have HOf:Hid (∀(wx:World),BtOf wx (.slice ka 32 kc) (bt (.slice ka 32 kc))→Calls Tryz.prog 68 #[.slice ka 32 kc] wx fun e w'=>e=.returned (.agg (kv (bt (.slice ka 32 kc))))∧Below wx.heap.size wx w'):=fun wx h=>by
  have:=OfR_calls (bt (.slice ka 32 kc)) (.slice ka 32 kc) wx (by omega) h.1
  rwa [List.take_of_length_le (by omega)] at this
 have HBt:=Lib.hid hk;have HGet:Hid (∀(wx:World),Below w.heap.size w wx→Calls Tryz.prog 69 #[vm,.agg (kv (bt (.slice ka 32 kc)))] wx fun e w'=>∃s,e=.returned (.tuple #[s,.bool true])∧Below wx.heap.size wx w'):=fun wx h=>(GetR_es bt m vm _ wx hkl.symm (D.g.ge.call h) (by have:=D.m;omega) (D.rd.call h)).mono fun e w' ⟨h1,s,l,h2,_⟩=>⟨s,by rw[h2,hany],h1⟩
 obtain⟨is,his⟩:∃is,is=(remT (bt (.slice ka 32 kc)) 0 (zCI 257 (zFH bt m) 0)).isSome:=⟨_,rfl⟩
 have HDel:Hid (∀wx,Below w.heap.size w wx→Calls Tryz.prog 72 #[.pointer (some ⟨tb,0,none⟩),.slice ka 32 kc] wx (TrPost zAK bits tb hb cb n 1000 ((remT (bt (.slice ka 32 kc)) 0 (zCI 257 (zFH bt m) 0)).getD (zCI 257 (zFH bt m) 0)) (.tuple #[.bool is,.nilIface]) wx)):=fun wx hbx=>by
  have:=TDelT_calls zAK tb (bt (.slice ka 32 kc)) (zCI 257 (zFH bt m) 0) p (.slice ka 32 kc) hb cb bits n wx (D.g.tr.call hbx) (D.g.hh.call hbx) D.B ⟨D.n.1,by have:=D.n.2;omega⟩ hkey (hk.1.call hbx) (D.K.call hbx) (D.g.rep.call hbx) (D.g.way hkey)
  rwa [←his] at this
 have HRm:Hid (∀(w1 w2 wx:World),Below w.heap.size w w1→DataKept w1 w2→Below w2.heap.size w2 wx→Calls Tryz.prog 53 #[vm,.agg (kv (bt (.slice ka 32 kc)))] wx fun e w'=>∃v',e=.returned v'∧RdEs w' v' (m.filter fun e=>decide (e.1≠bt (.slice ka 32 kc)))∧Below wx.heap.size wx w'):=fun w1 w2 wx h1 h2 h3 =>
  (RemoveR_es m vm _ wx hkl.symm (fun e he=>⟨(D.g.goodK e he).1.len,(D.g.goodK e he).2⟩) (by have:=D.m;omega) ((RdEs.data D.g.sl (D.rd.call h1) h2).call h3)).mono fun e w' ⟨v',e1,e2,e3⟩=>⟨v',e1,RdG.own (fun x hx=>zGO x (D.g.goodK x (List.mem_filter.1 hx).1).1.len) (by have:=D.m;have:=List.length_filter_le (fun e=>decide (e.1≠bt (.slice ka 32 kc))) m;omega) e2,e3⟩
 have HPo:Hid (∀(b:Bool)(w1 w2 w3:World) (v':Value) (p':Option Addr) (n':Int),Below w.heap.size w w1→HasTr tb hb p' w2→RepT zAK bits w2 p' ((remT (bt (.slice ka 32 kc)) 0 (zCI 257 (zFH bt m) 0)).getD (zCI 257 (zFH bt m) 0))→HasH hb cb bits n' w2→n≤n'→n'≤n+1000→DataKept w1 w2→w1.heap.size≤w2.heap.size→(∀B,B≤tb→B≤cb→Below B w1 w2)→Below w2.heap.size w2 w3→RdEs w3 v' (m.filter fun e=>decide (e.1≠bt (.slice ka 32 kc)))→zEF bt bits tb hb cb n m w (.returned (.tuple #[v',.bool b])) w3):=fun b w1 w2 w3 v' p' n' h1 h2 h3 h4 h5 h6 h7 h8 h9 h10 h11=>by
  have hgr:=((D.g.call h1).del h2 h3 h4 h7).call h10;rw[hany] at hgr;exact⟨v',b,(m.filter fun e=>decide (e.1≠bt (.slice ka 32 kc))),p',n',rfl,hgr,h11,by have:=List.length_filter_le (fun e=>decide (e.1≠bt (.slice ka 32 kc))) m;omega,h5,by omega,((DataKept.call h1).trans h7).trans (DataKept.call h10),Nat.le_trans h1.size (Nat.le_trans h8 h10.size),fun B hB1 hB2=>((h1.mono (Nat.le_trans hB1 D.tl)).trans (h9 B hB1 hB2)).trans (h10.mono (Nat.le_trans hB1 (Nat.le_of_lt (zAG h2))))⟩
 generalize zEF bt bits tb hb cb n m w=R at *;generalize (remT (bt (.slice ka 32 kc)) 0 (zCI 257 (zFH bt m) 0)).getD (zCI 257 (zFH bt m) 0)=T at *;generalize bt (.slice ka 32 kc)=k at *;generalize (m.filter fun e=>decide (e.1≠k))=m' at *;clear D hk hkl hkey hany his;have st:=St.init w;go_enter Tryz.func37,Tryz.ntmps37;go_upto_region 1 with (first
  |(refine zAD st rfl 99 _ rfl _ rfl ?_;intro b5 w1 st1;clear st))
 have hc0:w1.cell? ⟨b5,0,none⟩=some (.int .i64 2):=st1.cell (i:=0) rfl 0;have hc1:w1.cell? ⟨b5,1,none⟩=some (.slice ka 32 kc):=st1.cell (i:=0) rfl 1;have Hb1:=Lib.hid st1.below;clear st1
 go_wp2_with (first
  |(go_at_call 66;refine(HRt.out _).mono ?_;rintro e w2 ⟨rfl,hwq⟩;obtain rfl:=hwq.symm;clear hwq)
  |(go_at_call 68;first
    |(refine(HOf.out _ (HBt.out.call Hb1.out)).mono ?_;rintro e w2 ⟨rfl,hb2⟩;have hb12:=Hb1.out.trans (hb2.mono Hb1.out.size);have d1:=(hb2.cell (block_lt_of_cell hc1)).trans hc1;have d0:=(hb2.cell (block_lt_of_cell hc0)).trans hc0;clear hb2 hc0 hc1)
    |(refine(HOf.out _ ((HBt.out.call hb13).data hd4)).mono ?_;rintro e w5 ⟨rfl,hb5⟩))
  |(go_at_call 69;refine(HGet.out _ hb12).mono ?_;rintro e w3 ⟨s3,rfl,hb3⟩;have hb13:=hb12.trans (hb3.mono hb12.size);have e1:=(hb3.cell (block_lt_of_cell d1)).trans d1;have e0:=(hb3.cell (block_lt_of_cell d0)).trans d0;clear hb3 d0 d1)
  |(go_at_call 72;refine(HDel.out _ hb13).mono ?_;rintro e w4 ⟨p4,n4,rfl,ht4,hr4,hh4,ha4,hz4,hd4,hs4,hB4⟩;have g1:=hd4 b5 1 (.slice ka 32 kc) trivial e1;clear e0 e1)
  |(go_at_call 53;refine(HRm.out _ _ _ hb13 hd4 hb5).mono ?_;rintro e w6 ⟨v6,rfl,hrd6,hb6⟩;have hb46:=hb5.trans (hb6.mono hb5.size))
  |(go_at_call 67;refine(wrong_ok _ _ _).mono ?_;rintro e w7 ⟨rfl,hwq⟩;obtain rfl:=hwq.symm;clear hwq))
 all_goals exact HPo.out _ _ _ _ _ _ _ hb13 ht4 hr4 hh4 ha4 hz4 hd4 hs4 hB4 hb46 hrd6
set_option maxRecDepth 20000 in
theorem Do_delNot(D:DoIn bt bits tb hb cb n m p vm w)(ka va ba:Option Addr)(kc vn vc bn bc:Nat)(hk:BtOf w (.slice ka 32 kc) (bt (.slice ka 32 kc)))(hany:(m.any fun x=>decide (x.1=bt (.slice ka 32 kc)))=false) :
  Calls Tryz.prog 37 #[.pointer (some ⟨tb,0,none⟩),vm,.agg #[.int .i64 2,.slice ka 32 kc,.slice va vn vc,.slice ba bn bc]] w (zEF bt bits tb hb cb n m w):=by
 have hkl:=hk.len;have hkey:Key (bt (.slice ka 32 kc)):=⟨hkl.symm,hk.2.1⟩
 have HRt:Hid (∀wx,Calls Tryz.prog 66 #[.slice ka 32 kc,.slice none 0 0] wx fun e w'=>e=.returned (.int .i64 0)∧w'=wx):=fun wx=>zFA ka none 32 kc 0 0 wx
 have HOf:Hid (∀(wx:World),BtOf wx (.slice ka 32 kc) (bt (.slice ka 32 kc))→Calls Tryz.prog 68 #[.slice ka 32 kc] wx fun e w'=>e=.returned (.agg (kv (bt (.slice ka 32 kc))))∧Below wx.heap.size wx w'):=fun wx h=>by
  have:=OfR_calls (bt (.slice ka 32 kc)) (.slice ka 32 kc) wx (by omega) h.1
  rwa [List.take_of_length_le (by omega)] at this
 have HBt:=Lib.hid hk;have HGet:Hid (∀(wx:World),Below w.heap.size w wx→Calls Tryz.prog 69 #[vm,.agg (kv (bt (.slice ka 32 kc)))] wx fun e w'=>∃s,e=.returned (.tuple #[s,.bool false])∧Below wx.heap.size wx w'):=fun wx h=>(GetR_es bt m vm _ wx hkl.symm (D.g.ge.call h) (by have:=D.m;omega) (D.rd.call h)).mono fun e w' ⟨h1,s,l,h2,_⟩=>⟨s,by rw[h2,hany],h1⟩
 obtain⟨is,his⟩:∃is,is=(remT (bt (.slice ka 32 kc)) 0 (zCI 257 (zFH bt m) 0)).isSome:=⟨_,rfl⟩
 have HDel:Hid (∀wx,Below w.heap.size w wx→Calls Tryz.prog 72 #[.pointer (some ⟨tb,0,none⟩),.slice ka 32 kc] wx (TrPost zAK bits tb hb cb n 1000 ((remT (bt (.slice ka 32 kc)) 0 (zCI 257 (zFH bt m) 0)).getD (zCI 257 (zFH bt m) 0)) (.tuple #[.bool is,.nilIface]) wx)):=fun wx hbx=>by
  have:=TDelT_calls zAK tb (bt (.slice ka 32 kc)) (zCI 257 (zFH bt m) 0) p (.slice ka 32 kc) hb cb bits n wx (D.g.tr.call hbx) (D.g.hh.call hbx) D.B ⟨D.n.1,by have:=D.n.2;omega⟩ hkey (hk.1.call hbx) (D.K.call hbx) (D.g.rep.call hbx) (D.g.way hkey)
  rwa [←his] at this
 have HPo:Hid (∀(b:Bool)(w1 w2 w3:World) (v':Value) (p':Option Addr) (n':Int),Below w.heap.size w w1→HasTr tb hb p' w2→RepT zAK bits w2 p' ((remT (bt (.slice ka 32 kc)) 0 (zCI 257 (zFH bt m) 0)).getD (zCI 257 (zFH bt m) 0))→HasH hb cb bits n' w2→n≤n'→n'≤n+1000→DataKept w1 w2→w1.heap.size≤w2.heap.size→(∀B,B≤tb→B≤cb→Below B w1 w2)→Below w2.heap.size w2 w3→RdEs w3 v' m→zEF bt bits tb hb cb n m w (.returned (.tuple #[v',.bool b])) w3):=fun b w1 w2 w3 v' p' n' h1 h2 h3 h4 h5 h6 h7 h8 h9 h10 h11=>by
  have hgr:=((D.g.call h1).del h2 h3 h4 h7).call h10;rw[hany] at hgr;exact⟨v',b,m,p',n',rfl,hgr,h11,by omega,h5,by omega,((DataKept.call h1).trans h7).trans (DataKept.call h10),Nat.le_trans h1.size (Nat.le_trans h8 h10.size),fun B hB1 hB2=>((h1.mono (Nat.le_trans hB1 D.tl)).trans (h9 B hB1 hB2)).trans (h10.mono (Nat.le_trans hB1 (Nat.le_of_lt (zAG h2))))⟩
 have HRd:Hid (∀(w1 w2:World),Below w.heap.size w w1→DataKept w1 w2→RdEs w2 vm m):=fun w1 w2 h1 h2=>RdEs.data D.g.sl (D.rd.call h1) h2
 generalize zEF bt bits tb hb cb n m w=R at *;generalize (remT (bt (.slice ka 32 kc)) 0 (zCI 257 (zFH bt m) 0)).getD (zCI 257 (zFH bt m) 0)=T at *;generalize bt (.slice ka 32 kc)=k at *;clear D hk hkl hkey hany his;have st:=St.init w;go_enter Tryz.func37,Tryz.ntmps37;go_upto_region 1 with (first
  |(refine zAD st rfl 99 _ rfl _ rfl ?_;intro b5 w1 st1;clear st))
 have hc0:w1.cell? ⟨b5,0,none⟩=some (.int .i64 2):=st1.cell (i:=0) rfl 0;have hc1:w1.cell? ⟨b5,1,none⟩=some (.slice ka 32 kc):=st1.cell (i:=0) rfl 1;have Hb1:=Lib.hid st1.below;clear st1
 go_wp2_with (first
  |(go_at_call 66;refine(HRt.out _).mono ?_;rintro e w2 ⟨rfl,hwq⟩;obtain rfl:=hwq.symm;clear hwq)
  |(go_at_call 68;first
    |(refine(HOf.out _ (HBt.out.call Hb1.out)).mono ?_;rintro e w2 ⟨rfl,hb2⟩;have hb12:=Hb1.out.trans (hb2.mono Hb1.out.size);have d1:=(hb2.cell (block_lt_of_cell hc1)).trans hc1;have d0:=(hb2.cell (block_lt_of_cell hc0)).trans hc0;clear hb2 hc0 hc1)
    |(refine(HOf.out _ ((HBt.out.call hb13).data hd4)).mono ?_;rintro e w5 ⟨rfl,hb5⟩))
  |(go_at_call 69;refine(HGet.out _ hb12).mono ?_;rintro e w3 ⟨s3,rfl,hb3⟩;have hb13:=hb12.trans (hb3.mono hb12.size);have e1:=(hb3.cell (block_lt_of_cell d1)).trans d1;have e0:=(hb3.cell (block_lt_of_cell d0)).trans d0;clear hb3 d0 d1)
  |(go_at_call 72;refine(HDel.out _ hb13).mono ?_;rintro e w4 ⟨p4,n4,rfl,ht4,hr4,hh4,ha4,hz4,hd4,hs4,hB4⟩;have g1:=hd4 b5 1 (.slice ka 32 kc) trivial e1;clear e0 e1)
  |(go_at_call 67;refine(wrong_ok _ _ _).mono ?_;rintro e w7 ⟨rfl,hwq⟩;obtain rfl:=hwq.symm;clear hwq))
 all_goals exact HPo.out _ _ _ _ _ _ _ hb13 ht4 hr4 hh4 ha4 hz4 hd4 hs4 hB4 (Below.refl _ _) (HRd.out _ _ hb13 hd4)
theorem Do_delOk(D:DoIn bt bits tb hb cb n m p vm w)(ka va ba:Option Addr)(kc vn vc bn bc:Nat)(hk:BtOf w (.slice ka 32 kc) (bt (.slice ka 32 kc))) :
  Calls Tryz.prog 37 #[.pointer (some ⟨tb,0,none⟩),vm,.agg #[.int .i64 2,.slice ka 32 kc,.slice va vn vc,.slice ba bn bc]] w (zEF bt bits tb hb cb n m w):=by
 cases h:m.any fun x=>decide (x.1=bt (.slice ka 32 kc))
 ·exact Do_delNot D ka va ba kc vn vc bn bc hk h
 ·exact Do_delHas D ka va ba kc vn vc bn bc hk h
set_option maxRecDepth 20000 in
theorem Do_delBad(D:DoIn bt bits tb hb cb n m p vm w)(ka va ba:Option Addr)(kn kc vn vc bn bc:Nat)(hk:BtOf w (.slice ka kn kc) (bt (.slice ka kn kc)))(hbad:kn≠32) :
  Calls Tryz.prog 37 #[.pointer (some ⟨tb,0,none⟩),vm,.agg #[.int .i64 2,.slice ka kn kc,.slice va vn vc,.slice ba bn bc]] w (zEF bt bits tb hb cb n m w):=by
 have hkl:=hk.len;have HRt:Hid (∀wx,Calls Tryz.prog 66 #[.slice ka kn kc,.slice none 0 0] wx fun e w'=>e=.returned (.int .i64 2)∧w'=wx):=fun wx=>by
  have:=zFA ka none kn kc 0 0 wx
  rwa [show zFF kn 0=2 by unfold zFF;rw[if_neg hbad]] at this
 have HTG:Hid (∀wx,Below w.heap.size w wx→Calls Tryz.prog 72 #[.pointer (some ⟨tb,0,none⟩),.slice ka kn kc] wx (DelBad wx)):=fun wx hbx=>TDel_bad tb _ _ wx (hk.1.call hbx) (by omega)
 have HW:Hid (∀v c wx,Below w.heap.size w wx→IsErr wx v [(String.toUTF8 "delete",0)] (.iface 31 (.int .i64 c))→Calls Tryz.prog 67 #[v,.string (String.toUTF8 "delete"),.int .i64 0,.int .i64 2] wx (BoolPost wx)):=fun v c wx hbx h=>wrong_err _ 0 0 c 2 (by decide) v wx (D.et.call hbx) h
 have HPo:Hid (∀(b:Bool)(w1:World),Below w.heap.size w w1→zEF bt bits tb hb cb n m w (.returned (.tuple #[vm,.bool b])) w1):=fun b w1 h=>D.same h b
 generalize zEF bt bits tb hb cb n m w=R at *;clear D hk hkl hbad;have st:=St.init w;go_enter Tryz.func37,Tryz.ntmps37;go_upto_region 1 with (first
  |(refine zAD st rfl 99 _ rfl _ rfl ?_;intro b5 w1 st1;clear st))
 have hc0:w1.cell? ⟨b5,0,none⟩=some (.int .i64 2):=st1.cell (i:=0) rfl 0;have hc1:w1.cell? ⟨b5,1,none⟩=some (.slice ka kn kc):=st1.cell (i:=0) rfl 1;have Hb1:=Lib.hid st1.below;clear st1
 go_wp2_with (first
  |(go_at_call 66;refine(HRt.out _).mono ?_;rintro e w2 ⟨rfl,hwq⟩;obtain rfl:=hwq.symm;clear hwq)
  |(go_at_call 72;refine(HTG.out _ Hb1.out).mono ?_;rintro e w4 ⟨v4,c4,rfl,hie,hb4⟩;have hb14:=Hb1.out.trans (hb4.mono Hb1.out.size);clear hb4)
  |(go_at_call 67;refine(HW.out v4 c4 _ hb14 hie).mono ?_;rintro e w5 ⟨b5',rfl,hb5⟩;have hb15:=hb14.trans (hb5.mono hb14.size)))
 all_goals exact HPo.out _ _ hb15
def kbU(bt:Value→List Nat)(u:Upd):List Nat:=bt (.slice u.ka u.kn u.kc)
theorem UpsB.of{us:List Upd}(hf:∀u∈us,u.kn≤100∧u.vn≤70000)(h:∀u∈us,UpOk w bt u):UpsB w (kbU bt) bt us:=fun u hu=>by
 obtain⟨h1,h2⟩:=h u hu;exact⟨⟨h1.1,h1.2.1,h1.len,by have:=(hf u hu).2;omega⟩,h2.1,h2.2.1,h2.len⟩
set_option maxRecDepth 20000 in
theorem Do_apply(D:DoIn bt bits tb hb cb n m p vm w)(kind:Int)(ka va ba:Option Addr)(kn kc vn vc bn bc:Nat)(h0:kind≠0)(h1:kind≠1)(h2:kind≠2)(us:List Upd)(hu:RdU w (.slice ba bn bc) us)(hl:us.length≤20)(hf:∀u∈us,u.kn≤100∧u.vn≤70000)(hub:∀u∈us,UpOk w bt u) :
  Calls Tryz.prog 37 #[.pointer (some ⟨tb,0,none⟩),vm,.agg #[.int .i64 kind,.slice ka kn kc,.slice va vn vc,.slice ba bn bc]] w (zEF bt bits tb hb cb n m w):=by
 have hB:=UpsB.of hf hub;have hcost:zEZ us.length 0≤31000:=by
  unfold zEZ zEI
  have:((us.length:Nat):Int)≤20:=by omega
  rw[show (3*(257 - ((0:Nat):Int))+2)=773 from rfl];omega
 have HCk:Hid (∀wx,Below w.heap.size w wx→Calls Tryz.prog 73 #[.slice ba bn bc] wx (CkUPost (kbU bt) us wx)):=fun wx h=>CheckR_calls (kbU bt) us _ wx (by omega) (fun x hx=>(hB x hx).1.1.call h) (hu.call h)
 have HAp:Hid (∀wx,Below w.heap.size w wx→Calls Tryz.prog 74 #[.pointer (some ⟨tb,0,none⟩),.slice ba bn bc] wx (TApPost zAK bits tb hb cb n (zEZ us.length 0) (zCI 257 (zGI (zFH bt m) (us.map (cvU (kbU bt) bt))) 0) (OkU (kbU bt) us) wx)):=fun wx h =>
  TApply_calls zAK tb hb cb bits n (zFH bt m) (kbU bt) bt us _ p wx (D.g.tr.call h) (D.g.hh.call h) D.B (D.K.call h) (D.g.rep.call h) D.g.bld (hu.call h) (by omega) (fun u hm=>⟨⟨(hB u hm).1.1.call h,(hB u hm).1.2⟩,(hB u hm).2.1.call h,(hB u hm).2.2⟩) D.n.1 (by have:=D.n.2;omega)
 by_cases hok:OkU (kbU bt) us
 ·have hkeys:=hok.keys hB
  have HCk1:=Lib.hid (fun wx h=>(HCk.out wx h).mono fun e w' h=>(show ∃at':Int,e=.returned (.tuple #[.int .i64 at',.int .i64 0])∧Below wx.heap.size wx w' by
   obtain⟨h1,a',code,h2,h3⟩:=h;rw[h3.2 hok] at h2;exact⟨a',h2,h1⟩))
  have HAp1:=Lib.hid (fun wx h=>(HAp.out wx h).mono fun e w' h=>(h.resolve_right (fun h'=>h'.1 hok)).2);have HRa:Hid (∀(w1 w2 wx:World),Below w.heap.size w w1→DataKept w1 w2→Below w2.heap.size w2 wx→Calls Tryz.prog 75 #[vm,.slice ba bn bc] wx (ApPost (zGG (kbU bt) m us) wx)):=fun w1 w2 wx e1 e2 e3 =>
   ApplyR_calls (kbU bt) m us vm _ wx D.g.goodK (by have:=D.m;omega) (fun u hm=>⟨(((hB u hm).1.1.call e1).data e2).call e3,(hkeys u hm).1⟩) ((RdEs.data D.g.sl (D.rd.call e1) e2).call e3) ((RdG.data updc_data (hu.call e1) e2).call e3)
  have hent:=bldT_perm 257 0 (apply_ent (kbU bt) bt (cvU (kbU bt) bt) (fun u=>⟨rfl,rfl⟩) (fun u hd=>by unfold cvU;rw[hd];rfl) us m _ hok.2 (List.Perm.refl _));have hlen:=(applyE_good us m D.g.goodK (fun u hm=>(hkeys u hm).1)).2;have HPo:Hid (∀(w1 w2 w3:World)(v':Value) (p':Option Addr) (n':Int),Below w.heap.size w w1→HasTr tb hb p' w2→RepT zAK bits w2 p' (zCI 257 (zGI (zFH bt m) (us.map (cvU (kbU bt) bt))) 0)→HasH hb cb bits n' w2→n≤n'→n'≤n+zEZ us.length 0→DataKept w1 w2→w1.heap.size≤w2.heap.size→(∀B,B≤tb→B≤cb→Below B w1 w2)→Below w2.heap.size w2 w3→RdEs w3 v' (zGG (kbU bt) m us)→zEF bt bits tb hb cb n m w (.returned (.tuple #[v',.bool false])) w3):=fun w1 w2 w3 v' p' n' g1 g2 g3 g4 g5 g6 g7 g8 g9 g10 g11=>by
   rw[hent] at g3;exact⟨v',false,_,p',n',rfl,((D.g.call g1).apply (kbU bt) us (fun u hm=>⟨(hkeys u hm).1,fun hd=>⟨(hB u hm).2.1.call g1,(hB u hm).2.2.1,by have:=(hB u hm).2.2.2;have:=(hkeys u hm).2 hd;omega⟩⟩) g2 g3 g4 g7).call g10,g11,by omega,g5,by omega,((DataKept.call g1).trans g7).trans (DataKept.call g10),Nat.le_trans g1.size (Nat.le_trans g8 g10.size),fun B hB1 hB2=>((g1.mono (Nat.le_trans hB1 D.tl)).trans (g9 B hB1 hB2)).trans (g10.mono (Nat.le_trans hB1 (Nat.le_of_lt (zAG g2))))⟩
  generalize zEF bt bits tb hb cb n m w=R at *;generalize zCI 257 (zGI (zFH bt m) (us.map (cvU (kbU bt) bt))) 0=T at *;generalize zGG (kbU bt) m us=m' at *;generalize zEZ us.length 0=cc at *;clear D hB hu hl hf hub hok hkeys hent hlen HCk HAp hcost;have st:=St.init w;go_enter Tryz.func37,Tryz.ntmps37;go_upto_region 1 with (first
   |(refine zAD st rfl 99 _ rfl _ rfl ?_;intro b5 w1 st1;clear st))
  have hc0:w1.cell? ⟨b5,0,none⟩=some (.int .i64 kind):=st1.cell (i:=0) rfl 0;have hc1:w1.cell? ⟨b5,1,none⟩=some (.slice ka kn kc):=st1.cell (i:=0) rfl 1;have hc3:w1.cell? ⟨b5,3,none⟩=some (.slice ba bn bc):=st1.cell (i:=0) rfl 3;have Hb1:=Lib.hid st1.below;clear st1
  go_wp2_with (first
   |(go_at_call 73;refine(HCk1.out _ Hb1.out).mono ?_;rintro e w2 ⟨at2,rfl,hb2⟩;have hb12:=Hb1.out.trans (hb2.mono Hb1.out.size);have d3:=(hb2.cell (block_lt_of_cell hc3)).trans hc3;clear hb2 hc3 hc1 hc0)
   |(go_at_call 74;refine(HAp1.out _ hb12).mono ?_;rintro e w4 ⟨p4,n4,rfl,ht4,hr4,hh4,ha4,hz4,hd4,hs4,hB4⟩;have g3:=hd4 b5 3 (.slice ba bn bc) trivial d3;clear d3)
   |(go_at_call 67;refine(wrong_ok _ _ _).mono ?_;rintro e w5 ⟨rfl,hwq⟩;obtain rfl:=hwq.symm;clear hwq)
   |(go_at_call 75;refine(HRa.out _ _ _ hb12 hd4 (Below.refl _ _)).mono ?_;rintro e w6 ⟨v6,rfl,hrd6,hb6⟩))
  all_goals exact HPo.out _ _ _ _ _ _ hb12 ht4 hr4 hh4 ha4 hz4 hd4 hs4 hB4 hb6 hrd6
 ·have HCk1:=Lib.hid (fun wx h=>(HCk.out wx h).mono fun e w' h=>(show ∃at' code:Int,e=.returned (.tuple #[.int .i64 at',.int .i64 code])∧code≠0∧Below wx.heap.size wx w' by
   obtain⟨h1,a',code,h2,h3⟩:=h;exact⟨a',code,h2,fun hc=>hok (h3.1 hc),h1⟩))
  have HAp1:=Lib.hid (fun wx h=>(HAp.out wx h).mono fun e w' h=>(h.resolve_left (fun h'=>hok h'.1)).2);have HW:Hid (∀v i i' c code wx,code≠0→Below w.heap.size w wx→IsErr wx v [(opApply,i)] (.iface 31 (.int .i64 c))→Calls Tryz.prog 67 #[v,.string opApply,.int .i64 i',.int .i64 code] wx (BoolPost wx)):=fun v i i' c code wx hne hbx h=>wrong_err _ i i' c code hne v wx (D.et.call hbx) h
  have HPo:Hid (∀(b:Bool)(w1:World),Below w.heap.size w w1→zEF bt bits tb hb cb n m w (.returned (.tuple #[vm,.bool b])) w1):=fun b w1 h=>D.same h b
  generalize zEF bt bits tb hb cb n m w=R at *;clear D hB hu hl hf hub hok HCk HAp hcost;have st:=St.init w;go_enter Tryz.func37,Tryz.ntmps37;go_upto_region 1 with (first
   |(refine zAD st rfl 99 _ rfl _ rfl ?_;intro b5 w1 st1;clear st))
  have hc0:w1.cell? ⟨b5,0,none⟩=some (.int .i64 kind):=st1.cell (i:=0) rfl 0;have hc1:w1.cell? ⟨b5,1,none⟩=some (.slice ka kn kc):=st1.cell (i:=0) rfl 1;have hc3:w1.cell? ⟨b5,3,none⟩=some (.slice ba bn bc):=st1.cell (i:=0) rfl 3;have Hb1:=Lib.hid st1.below;clear st1
  go_wp2_with (first
   |(go_at_call 73;refine(HCk1.out _ Hb1.out).mono ?_;rintro e w2 ⟨at2,code2,rfl,hne2,hb2⟩;have hb12:=Hb1.out.trans (hb2.mono Hb1.out.size);have d3:=(hb2.cell (block_lt_of_cell hc3)).trans hc3;clear hb2 hc3 hc1 hc0)
   |(go_at_call 74;refine(HAp1.out _ hb12).mono ?_;rintro e w4 ⟨v4,a4,c4,rfl,hie,hb4⟩;have hb14:=hb12.trans (hb4.mono hb12.size);clear hb4)
   |(go_at_call 67;refine(HW.out v4 a4 at2 c4 code2 _ hne2 hb14 hie).mono ?_;rintro e w5 ⟨b5',rfl,hb5⟩;have hb15:=hb14.trans (hb5.mono hb14.size)))
  all_goals exact HPo.out _ _ hb15
end
end
section
set_option maxHeartbeats 8000000
open Go Go.RowKit
attribute [local irreducible] Inv.wpInv Mix.wpUp zCI
theorem OpOk.call{w w':World}{bt:Value→List Nat}{ut:Value→List Upd}{o:OpV}(h:OpOk w bt ut o)(hb:Below w.heap.size w w'):OpOk w' bt ut o :=
 ⟨h.k.call hb,h.v.call hb,fun hn=>⟨(h.b hn).1.call hb,fun u hu=>⟨((h.b hn).2 u hu).1.call hb,((h.b hn).2 u hu).2.call hb⟩⟩,h.i⟩
section
variable {bt:Value→List Nat} {ut:Value→List Upd} {bits n:Int} {tb hb cb:Nat} {m:List (List Nat×Value)} {p:Option Addr} {vm:Value} {w w1 w2:World}
theorem Do_calls(D:DoIn bt bits tb hb cb n m p vm w)(o:OpV)(ho:OpOk w bt ut o)(hf:FewOp ut o):Calls Tryz.prog 37 #[.pointer (some ⟨tb,0,none⟩),vm,.agg (opc o).toArray] w (zEF bt bits tb hb cb n m w):=by
 obtain⟨kind,ka,kn,kc,va,vn,vc,ba,bn,bc⟩:=o;obtain⟨hk,hv,hb',hi⟩:=ho;obtain⟨f1,f2,f3,f4⟩:=hf;simp only at hk hv hb' hi f1 f2 f3 f4
 show Calls Tryz.prog 37 #[.pointer (some ⟨tb,0,none⟩),vm,.agg #[.int .i64 kind,.slice ka kn kc,.slice va vn vc,.slice ba bn bc]] w (zEF bt bits tb hb cb n m w)
 by_cases h0:kind=0
 ·subst h0
  by_cases hg:kn=32∧vn≤65535
  ·obtain⟨rfl,hvn⟩:=hg
   exact Do_putOk D ka va ba kc vn vc bn bc hk hv hvn
  ·exact Do_putBad D ka va ba kn kc vn vc bn bc hk (by omega) (by unfold BadKV;omega)
 ·by_cases h1:kind=1
  ·subst h1
   by_cases hg:kn=32
   ·subst hg
    exact Do_getOk D ka va ba kc vn vc bn bc hk
   ·exact Do_getBad D ka va ba kn kc vn vc bn bc hk hg
  ·by_cases h2:kind=2
   ·subst h2
    by_cases hg:kn=32
    ·subst hg
     exact Do_delOk D ka va ba kc vn vc bn bc hk
    ·exact Do_delBad D ka va ba kn kc vn vc bn bc hk hg
   ·have hu:=hb' (by omega)
    exact Do_apply D kind ka va ba kn kc vn vc bn bc h0 h1 h2 (ut (.slice ba bn bc)) hu.1 f4.1 f4.2 hu.2
def zGA(bt:Value→List Nat)(bits:Int)(w:World)(e:Ending)(w':World):Prop:=∃(tp:Option Addr) (vm:Value) (b:Bool),e=.returned (.tuple #[.pointer tp,vm,.bool b])∧Below w.heap.size w w' ∧
 (b=true→(0≤bits∧bits≤256)∧∃(tb hb cb:Nat) (n:Int) (m:List (List Nat×Value)) (p:Option Addr),tp=some ⟨tb,0,none⟩∧w.heap.size≤tb∧w.heap.size≤cb∧DoIn bt bits tb hb cb n m p vm w'∧n≤400000∧m.length≤300)
set_option maxRecDepth 20000 in
theorem Grown_bits(bits:Int)(h:¬(0≤bits∧bits≤256))(v:Value)(w:World):Calls Tryz.prog 14 #[.int .i64 bits,v] w (zGA bt bits w):=by
 have HP0:Hid (∀w',Below w.heap.size w w'→zGA bt bits w (.returned (.tuple #[.pointer none,.slice none 0 0,.bool false])) w'):=fun w' h=>⟨none,_,false,rfl,h,fun h=>by cases h⟩
 generalize zGA bt bits w=R at *;have HRt:Hid (∀wx,Calls Tryz.prog 6 #[.int .i64 bits] wx fun e w'=>e=.returned (.bool false)∧w'=wx):=fun wx=>by
  have:=Right05_calls bits wx;rw[decide_eq_false h] at this;exact this
 clear h;go_enter Tryz.func14,Tryz.ntmps14
 go_wp2_with (first
  |(go_at_call 6;refine(HRt.out _).mono ?_;rintro e w2 ⟨rfl,hwq⟩;obtain rfl:=hwq.symm;clear hwq))
 go_ret3;exact HP0.out _ (Below.refl _ _)
set_option maxRecDepth 20000 in
theorem Grown_long(bits:Int)(h:0≤bits∧bits≤256)(a:Option Addr)(l c:Nat)(hl:12<l)(w:World):Calls Tryz.prog 14 #[.int .i64 bits,.slice a l c] w (zGA bt bits w):=by
 have HP0:Hid (∀w',Below w.heap.size w w'→zGA bt bits w (.returned (.tuple #[.pointer none,.slice none 0 0,.bool false])) w'):=fun w' h=>⟨none,_,false,rfl,h,fun h=>by cases h⟩
 generalize zGA bt bits w=R at *;have HRt:Hid (∀wx,Calls Tryz.prog 6 #[.int .i64 bits] wx fun e w'=>e=.returned (.bool true)∧w'=wx):=fun wx=>by
  have:=Right05_calls bits wx;rw[decide_eq_true h] at this;exact this
 have HF:=Lib.hid (fun wx=>FewL_long a l c hl wx);clear h hl;go_enter Tryz.func14,Tryz.ntmps14
 go_wp2_with (first
  |(go_at_call 6;refine(HRt.out _).mono ?_;rintro e w2 ⟨rfl,hwq⟩;obtain rfl:=hwq.symm;clear hwq)
  |(go_at_call 36;refine(HF.out _).mono ?_;rintro e w3 ⟨rfl,hb3⟩))
 go_ret3;exact HP0.out _ hb3
set_option maxRecDepth 20000 in
theorem Grown_calls(bits:Int)(h:0≤bits∧bits≤256)(os:List OpV)(v:Value)(w:World)(hv:RdO w v os)(h1000:os.length≤1000)(ho:∀o∈os,OpOk w bt ut o)(hK:HasK zAK w)(hg:GotET w):Calls Tryz.prog 14 #[.int .i64 bits,v] w (zGA bt bits w):=by
 have HP0:Hid (∀w',Below w.heap.size w w'→zGA bt bits w (.returned (.tuple #[.pointer none,.slice none 0 0,.bool false])) w'):=fun w' h=>⟨none,_,false,rfl,h,fun h=>by cases h⟩
 have HP1:Hid (∀(tb hb cb:Nat)(n:Int) (m:List (List Nat×Value)) (p:Option Addr) (vm:Value) (w':World),Below w.heap.size w w'→w.heap.size≤tb→w.heap.size≤cb→DoIn bt bits tb hb cb n m p vm w'→n≤400000→m.length≤300→zGA bt bits w (.returned (.tuple #[.pointer (some ⟨tb,0,none⟩),vm,.bool true])) w'):=fun tb hb cb n m p vm w' h' h1 h2 h3 h4 h5=>⟨_,vm,true,rfl,h',fun _=>⟨h,tb,hb,cb,n,m,p,rfl,h1,h2,h3,h4,h5⟩⟩
 generalize zGA bt bits w=R at *;have HRt:Hid (∀wx,Calls Tryz.prog 6 #[.int .i64 bits] wx fun e w'=>e=.returned (.bool true)∧w'=wx):=fun wx=>by
  have:=Right05_calls bits wx;rw[decide_eq_true h] at this;exact this
 have HF:=Lib.hid (FewL_calls bt ut os v w hv h1000 ho);have HN:=Lib.hid (fun wx=>TNew_calls bits h wx);have HV:=Lib.hid hv;have HO:=Lib.hid ho;have HKK:=Lib.hid hK;have HG:=Lib.hid hg;have HB:=Lib.hid h;obtain⟨a,c,rfl,_⟩:=hv.form;clear hv ho hK hg h;go_enter Tryz.func14,Tryz.ntmps14;go_upto_region 8 with (first
  |(go_at_call 6;refine(HRt.out _).mono ?_;rintro e w2 ⟨rfl,hwq⟩;obtain rfl:=hwq.symm;clear hwq)
  |(go_at_call 36;refine HF.out.mono ?_;rintro e w3 ⟨hb3,r3,rfl,hr3⟩)
  |(go_at_call 24;refine(HN.out _).mono ?_;rintro e w4 ⟨tb,hb,cb,rfl,htb,hhb,hcb,htc,hrow,hh4,hb4⟩;have htr4:HasTr tb hb none w4:=hrow;have hb14:=hb3.trans (hb4.mono hb3.size))
  |(go_at_call 16;refine(zIQ tb hb none _ htr4).mono ?_;rintro e w5 ⟨rfl,hwq⟩;obtain rfl:=hwq.symm;clear hwq))
 ·go_ret3
  exact HP0.out _ hb3
 obtain⟨h12,hfew⟩:os.length≤12∧∀o∈os,FewOp ut o:=by
  rcases hr3 with h | ⟨_,h⟩
  ·simp_all
  ·exact h
 have hD0:DoIn bt bits tb hb cb 0 [] none (.slice none 0 0) w4 :=
  ⟨⟨htr4,by rw[show zFH bt []=[] from rfl,bldT_nil];exact rfl,hh4,fun e he=>(List.not_mem_nil he).elim,fun e he=>(List.not_mem_nil he).elim,⟨List.Pairwise.nil,fun e he=>(List.not_mem_nil he).elim⟩⟩,RdG.nil _,HKK.out.call hb14,HG.out.call hb14,HB.out,⟨Int.le_refl _,by omega⟩,Nat.zero_le _⟩
 have HD0:=Lib.hid hD0;have HFew:=Lib.hid hfew;have Htb:Hid (w.heap.size≤tb∧w.heap.size≤cb):=⟨Nat.le_trans hb3.size htb,Nat.le_trans hb3.size hcb⟩
 have h12i:((os.length:Nat):Int)≤12:=by omega
 obtain⟨dO,hdO,haO⟩:=aggOp;clear hD0 hfew htr4 hrow hh4 hb4 hb3 hr3 htb hhb hcb htc HF HN HRt HP0
 go_loopw [9,38] (fun vm i wr=>∃(j:Nat) (n:Int) (m:List (List Nat×Value)) (p:Option Addr) (v9:Value),j≤os.length∧v9=vm∧i=.int .i64 (j:Nat)∧Hid (DoIn bt bits tb hb cb n m p v9 wr∧n≤31000*(j:Int)∧m.length≤20*j)∧Below w.heap.size w wr) (fun _ i _=>((os.length:Int) - intOf i).toNat)
 case atStart=>exact⟨0,0,[],none,_,Nat.zero_le _,rfl,rfl,⟨HD0.out,by omega,Nat.zero_le _⟩,hb14⟩
 case round =>
  obtain⟨j,n,m,p,v9,hj,rfl,rfl,HD,hbw⟩:=hrel;clear hb14 HD0
  by_cases hlt:j<os.length
  ·have hji:((j:Nat):Int)<(os.length:Nat):=by omega
   obtain⟨b,off,c',hva,_,Hat0⟩:=HV.out.at (by intro h;rw[h] at hlt;exact absurd hlt (Nat.not_lt_zero _));obtain⟨rfl,rfl⟩:a=some ⟨b,off,none⟩∧c=c':=by injection hva with h1 h2 h3;exact⟨h1,h3⟩
   have Hat:Hid (CellsAt wr b (off+j*4) (opc os[j])):=Hat0.out wr hbw j hlt;have HOk:=Lib.hid ((HO.out os[j] (List.getElem_mem _)).call hbw);have HFo:=Lib.hid (HFew.out os[j] (List.getElem_mem _));generalize os[j]=o at *;have Hbw:=Lib.hid hbw;have HDo:Hid (∀wx,Below wr.heap.size wr wx→Calls Tryz.prog 37 #[.pointer (some ⟨tb,0,none⟩),v9,.agg (opc o).toArray] wx (zEF bt bits tb hb cb n m wx)):=fun wx h=>Do_calls (HD.out.1.call h) o (HOk.out.call h) HFo.out
   clear hva Hat0 HOk HFo hbw;have st0:=St.init wr
   go_wp2_with (first
    |((with_reducible refine zBA 99 ?_);first
      |(refine zAC rfl 99 _ rfl bo rfl _ hdO haO _ _ (st2.at (i:=0) rfl) sizeOp0 ?_)
      |(refine zBR rfl 99 _ rfl b (off+j*4) rfl aggOp (opc o) sizeOp0 Hat.out ?_))
    |((with_reducible refine zAW 99 ?_);refine zAE st0 rfl 99 rfl _ zeroOp ?_;intro bo w1 st1;clear st0)
    |((with_reducible refine zAN 99 ?_);refine zAA st1 rfl 99 _ _ rfl 0 bo rfl (.agg (opc o).toArray) rfl _ _ rfl sizeOp0 rfl (op_one o) [(bo,(opc o).toArray,99)] rfl ?_;intro w2 st2;clear st1)
    |(go_at_call 37;refine(HDo.out _ st2.below).mono ?_;rintro e w3 ⟨v3,b3,m3,p3,n3,rfl,hg3,hrd3,hl3,hn3,hz3,hd3,hs3,hB3⟩))
   have hb3:Below w.heap.size w w3:=(Hbw.out.trans (st2.below.mono Hbw.out.size)).trans (hB3 w.heap.size Htb.out.1 Htb.out.2);obtain⟨hDj,hnj,hmj⟩:=HD.out;refine⟨⟨j+1,n3,m3,p3,v3,hlt,rfl,by simp,⟨⟨hg3,hrd3,HKK.out.call hb3,HG.out.call hb3,HB.out,⟨by have:=hDj.n.1;omega,by omega⟩,by omega⟩,by omega,by omega⟩,hb3⟩,?_⟩;simp only[intOf];omega
  ·obtain rfl:j=os.length:=by omega
   obtain⟨hDj,hnj,hmj⟩:=HD.out;go_wp2;go_ret3;exact HP1.out _ _ _ _ _ _ _ _ hbw Htb.out.1 Htb.out.2 hDj (by omega) (by omega)
end
end
end Go.Proofs.YtlcngapphloafaaGreatDoor
