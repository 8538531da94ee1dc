/- Parts of the proof that are used by the claim: Tr1, Tr2, Tr3, Tr4, Tr5, Tr6, Tr7. No condition is added here. -/
import Derived.Test.YtlcngapphloafaaGreatDoorPk15
import Derived.Test.YtlcngapphloafaaGreatDoorPk23
import Derived.Test.YtlcngapphloafaaGreatDoorPk20
namespace Go.Proofs.YtlcngapphloafaaGreatDoor
section
set_option maxHeartbeats 1000000
open Go Go.RowKit
attribute [local irreducible] Inv.wpInv Mix.wpUp
inductive Tr where
 |nil
 |leaf (k v:List Nat)
 |inner (l r:Tr)
def zJL(KK:List Int)(bits:Int):Tr→List Nat
 |.nil=>zBE KK bits [3]
 |.leaf k v=>zBE KK bits (0::(k++zBE KK bits (2::v)))
 |.inner l r=>zBE KK bits (1::(zJL KK bits l++zJL KK bits r))
theorem zDL(KK:List Int)(bits:Int):∀t,Key (zJL KK bits t)
 |.nil=>zBG _ _ _
 |.leaf _ _=>zBG _ _ _
 |.inner _ _=>zBG _ _ _
def zBZ:Tr→Int
 |.nil=>0
 |.leaf _ _=>1
 |.inner _ _=>2
def zBT(pl pr:Option Addr)(ds:List Nat)(n:Int):Array Value:=#[.pointer pl,.pointer pr]++(kv ds++#[.int .i64 n])
def innerIface(pl pr:Option Addr)(ds:List Nat)(n:Int):Value:=.iface 188 (.agg (zBT pl pr ds n))
def RepT(KK:List Int)(bits:Int)(w:World):Option Addr→Tr→Prop
 |p,.nil=>p=none
 |p,.leaf k v=>∃nb a c,p=some ⟨nb,0,none⟩∧w.heap[nb]?=some (.cells (zCF (zED k (zBE KK bits (2::v)) (.slice a v.length c)) (zJL KK bits (.leaf k v))) 182 (0,0))∧RdB w (.slice a v.length c) v∧Key k∧(∀x∈v,x<256)∧v.length≤100000
 |p,.inner l r=>∃nb pl pr n,p=some ⟨nb,0,none⟩∧w.heap[nb]?=some (.cells (zCF (innerIface pl pr (zJL KK bits l++zJL KK bits r) n) (zJL KK bits (.inner l r))) 182 (0,0))∧RepT KK bits w pl l∧RepT KK bits w pr r
section
variable {KK:List Int} {bits:Int} {w w':World}
theorem RepT.call:∀{t:Tr} {p:Option Addr},RepT KK bits w p t→Below w.heap.size w w'→RepT KK bits w' p t
 |.nil,_,h,_=>h
 |.leaf _ _,_,⟨nb,a,c,hp,hr,hv,h1,h2,h3⟩,hb=>⟨nb,a,c,hp,(hb.block nb (zAG hr)).trans hr,hv.call hb,h1,h2,h3⟩
 |.inner _ _,_,⟨nb,pl,pr,n,hp,hr,h1,h2⟩,hb=>⟨nb,pl,pr,n,hp,(hb.block nb (zAG hr)).trans hr,RepT.call h1 hb,RepT.call h2 hb⟩
theorem RepT.row_turn{b:Nat}{cs:Array Value}{ty:TypeId}{fr:Nat×Nat}(hrow:w.heap[b]?=some (.cells cs ty fr))(hcs:∀(i:Nat)(x:Int),cs[i]?≠some (.int .u8 x))(h33:cs.size≠33)(hg:w.grownBy w' (some b))(hrd:∀v l,RdB w v l→RdB w' v l) :
  ∀{t:Tr} {p:Option Addr},RepT KK bits w p t→RepT KK bits w' p t
 |.nil,_,h=>h
 |.leaf k v,_,⟨nb,a,c,hp,hr,hv,h1,h2,h3⟩=>⟨nb,a,c,hp,(hg.block nb (zAG hr) (fun e=>by
   obtain rfl:nb=b:=Option.some.inj e;have h:=hrow.symm.trans hr;injection h with h;injection h with h _ _;exact h33 (by rw[h];exact nodeCells_size _ _ (zDL KK bits (.leaf k v)).len))).trans hr,hrd _ _ hv,h1,h2,h3⟩
 |.inner l r,_,⟨nb,pl,pr,n,hp,hr,h1,h2⟩=>⟨nb,pl,pr,n,hp,(hg.block nb (zAG hr) (fun e=>by
   obtain rfl:nb=b:=Option.some.inj e;have h:=hrow.symm.trans hr;injection h with h;injection h with h _ _;exact h33 (by rw[h];exact nodeCells_size _ _ (zDL KK bits (.inner l r)).len))).trans hr,RepT.row_turn hrow hcs h33 hg hrd h1,RepT.row_turn hrow hcs h33 hg hrd h2⟩
theorem RepT.turn{hb cb:Nat}{n:Int}{bt:Int}{t:Tr}{p:Option Addr}(h:RepT KK bits w p t)(hh:HasH hb cb bt n w)(hg:w.grownBy w' (some cb)):RepT KK bits w' p t :=
 RepT.row_turn hh.c (fun i x=>by rcases i with _ | i<;>simp) (by simp) hg (fun _ _ h=>h.turn hh.c hg) h
theorem RepT.form{t:Tr}{p:Option Addr}(h:RepT KK bits w p t):(t=.nil∧p=none)∨(t≠.nil∧∃nb,p=some ⟨nb,0,none⟩):=by
 cases t with
 |nil=>exact .inl ⟨rfl,h⟩
 |leaf k v=>obtain⟨nb,_,_,hp,_⟩:=h;exact .inr ⟨by simp,nb,hp⟩
 |inner l r=>obtain⟨nb,_,_,_,hp,_⟩:=h;exact .inr ⟨by simp,nb,hp⟩
theorem row_cell0{nb:Nat}{c:Value}{d:List Nat}{t:TypeId}{fr:Nat×Nat}(h:w.heap[nb]?=some (.cells (zCF c d) t fr)):w.cell? ⟨nb,0,none⟩=some c:=by
 simp only[World.cell?,h,Option.isSome_none,Bool.false_eq_true,if_false];rw[nodeCells_content]
end
theorem taInner0(lc:Array Value)(w:World):(Instr.typeAssert (.iface 188 (.agg lc)) 180 184 true).run Tryz.prog w=.ok (.tuple #[.agg (zBI (List.replicate 32 0) (List.replicate 32 0) (.slice none 0 0)),.bool false]) w:=by kernel_rfl
theorem taInner(lc:Array Value)(w:World):(Instr.typeAssert (.iface 188 (.agg lc)) 180 188 true).run Tryz.prog w=.ok (.tuple #[.agg lc,.bool true]) w:=by kernel_rfl
theorem taInner1(lc:Array Value)(w:World):(Instr.typeAssert (.iface 188 (.agg lc)) 180 188 false).run Tryz.prog w=.ok (.agg lc) w:=by kernel_rfl
def zHZ:Array Value:=zBT none none (List.replicate 64 0) 0
theorem shapeInnerZero:(Tryz.prog.info? 188).bind (·.zero)=some (.agg zHZ):=by kernel_rfl
theorem builtInnerZero:Tryz.prog.built 188 []=some zHZ:=by kernel_rfl
theorem sizeInner0:(Tryz.prog.info? 188).map (·.size)=some 67:=by kernel_rfl
theorem aggInner:∃d,Tryz.prog.underlying 188=some d∧zGJ d=true:=by
 have h:(Tryz.prog.underlying 188).map zGJ=some true:=by kernel_rfl
 cases hq:Tryz.prog.underlying 188 with
 |none=>rw[hq] at h;cases h
 |some d=>rw[hq] at h;exact⟨d,rfl,Option.some.inj h⟩
set_option maxRecDepth 20000 in
theorem KindInner_calls(lc:Array Value)(nb:Nat)(w:World)(hn:w.cell? ⟨nb,0,none⟩=some (.iface 188 (.agg lc))) :
  Calls Tryz.prog 39 #[.pointer (some ⟨nb,0,none⟩)] w fun e w'=>e=.returned (.int .i64 2)∧w'=w:=by
 have ht:=taInner0 lc w;have ht2:=taInner lc w;generalize zBI (List.replicate 32 0) (List.replicate 32 0) (.slice none 0 0)=zc at *;go_enter Tryz.func39,Tryz.ntmps39;go_wp2;go_ret;exact⟨rfl,rfl⟩
theorem zBW(KK:List Int)(bits:Int)(t:Tr)(p:Option Addr)(w:World)(h:RepT KK bits w p t) :
  Calls Tryz.prog 39 #[.pointer p] w fun e w'=>e=.returned (.int .i64 (zBZ t))∧w'=w:=by
 cases t with
 |nil=>obtain rfl:p=none:=h;exact zDT w
 |leaf k v=>obtain⟨nb,a,c,rfl,hr,_⟩:=h;exact zGK _ nb w (row_cell0 hr)
 |inner l r=>obtain⟨nb,pl,pr,n,rfl,hr,_⟩:=h;exact KindInner_calls _ nb w (row_cell0 hr)
theorem zFY(pl pr:Option Addr)(ds:List Nat)(n:Int)(h:ds.length=64):(zBT pl pr ds n).size=67:=by unfold zBT;rw[Array.size_append,Array.size_append,zAF,h];rfl
theorem innerCells_one(pl pr:Option Addr)(ds:List Nat)(n:Int):∀u∈(zBT pl pr ds n).toList,u.oneCell'=true:=by
 intro u hu;unfold zBT at hu;rw[Array.toList_append,Array.toList_append,List.mem_append,List.mem_append] at hu;rcases hu with hu | hu | hu
 ·simp at hu;rcases hu with rfl | rfl<;>rfl
 ·exact zBJ _ u hu
 ·obtain rfl:u=.int .i64 n:=by simpa using hu
  rfl
set_option maxRecDepth 20000 in
theorem inner0_calls(p:Option Addr)(kk:Int)(hkk:kk≠2)(w:World)(hcall:∀wx,Below w.heap.size w wx→Calls Tryz.prog 39 #[.pointer p] wx fun e w'=>e=.returned (.int .i64 kk)∧w'=wx) :
  Calls Tryz.prog 158 #[.pointer p] w fun e w'=>e=.returned (.agg zHZ)∧Below w.heap.size w w':=by
 have HC:=Lib.hid hcall;have H1:Hid (∀u∈zHZ.toList,u.oneCell'=true):=innerCells_one _ _ _ _;have H2:=Lib.hid builtInnerZero;have H3:=Lib.hid shapeInnerZero;have H4:Hid (zHZ.size=67):=zFY _ _ _ _ (by simp);clear hcall;generalize zHZ=lc at *;have st:=St.init w;go_enter Tryz.func158,Tryz.ntmps158
 go_wp2_with (first
  |((with_reducible refine zAW 188 ?_);refine zAE st rfl 188 rfl _ H3.out ?_;intro b2 w1 st1;clear st)
  |(go_at_call 39;refine(HC.out _ st1.below).mono ?_;rintro e w2 ⟨rfl,rfl⟩)
  |((with_reducible refine zEG 188 ?_);refine zAM rfl 188 _ rfl [] ?_ _ H2.out ?_;(·(simp[Act.eval];done)))
  |((with_reducible refine zAN 188 ?_);refine zAA st1 rfl 188 _ _ rfl 0 b2 rfl (.agg lc) rfl _ _ rfl (by show _=some lc.size;rw[H4.out];exact sizeInner0) rfl H1.out _ rfl ?_;intro w4 st4;clear st1))
 obtain⟨dL,hdL,hagg⟩:=aggInner;exact zBX rfl b2 _ _ _ rfl (st4.at (i:=0) rfl) hdL hagg (by show _=some lc.size;rw[H4.out];exact sizeInner0) rfl ⟨rfl,st4.below⟩
set_option maxRecDepth 20000 in
theorem innerInner_calls(lc:Array Value)(H4:Hid (lc.size=67))(H1:Hid (∀u∈lc.toList,u.oneCell'=true))(nb:Nat)(w:World)(hn:w.cell? ⟨nb,0,none⟩=some (.iface 188 (.agg lc))) :
  Calls Tryz.prog 158 #[.pointer (some ⟨nb,0,none⟩)] w fun e w'=>e=.returned (.agg lc)∧Below w.heap.size w w':=by
 have H3:=Lib.hid shapeInnerZero;have H5:Hid (zHZ.size=67):=zFY _ _ _ _ (by simp);generalize zHZ=zc at *;have hlt:=zAS hn;have st:=St.init w;have ht:=taInner1 lc;go_enter Tryz.func158,Tryz.ntmps158
 go_wp2_with (first
  |((with_reducible refine zAW 188 ?_);refine zAE st rfl 188 rfl _ H3.out ?_;intro b2 w1 st1;clear st;have hn1:=(st1.below.cell hlt).trans hn)
  |(go_at_call 39;refine(KindInner_calls lc nb _ hn1).mono ?_;rintro e w2 ⟨rfl,rfl⟩)
  |((with_reducible refine zAN 188 ?_);refine zAA st1 rfl 188 _ _ rfl 0 b2 rfl (.agg lc) rfl _ _ rfl (by show _=some lc.size;rw[H4.out];exact sizeInner0) (by rw[H5.out];exact H4.out) H1.out _ rfl ?_;intro w4 st4;clear st1))
 obtain⟨dL,hdL,hagg⟩:=aggInner;exact zBX rfl b2 _ _ _ rfl (st4.at (i:=0) rfl) hdL hagg (by show _=some lc.size;rw[H4.out];exact sizeInner0) rfl ⟨rfl,st4.below⟩
def subL:Tr→Tr | .inner l _=>l | _=>.nil
def subR:Tr→Tr | .inner _ r=>r | _=>.nil
def InPost(KK:List Int)(bits:Int)(t:Tr)(w:World)(e:Ending)(w':World):Prop:=∃pl pr ds n,e=.returned (.agg (zBT pl pr ds n))∧ds.length=64∧RepT KK bits w pl (subL t)∧RepT KK bits w pr (subR t)∧Below w.heap.size w w'
theorem inner_calls(KK:List Int)(bits:Int)(t:Tr)(p:Option Addr)(w:World)(h:RepT KK bits w p t) :
  Calls Tryz.prog 158 #[.pointer p] w (InPost KK bits t w):=by
 cases t with
 |nil=>exact(inner0_calls p 0 (by decide) w (fun wx hb=>zBW KK bits .nil p wx (h.call hb))).mono (fun e w' ⟨h1,h2⟩=>⟨none,none,_,0,h1,by simp,rfl,rfl,h2⟩)
 |leaf k v=>exact(inner0_calls p 1 (by decide) w (fun wx hb=>zBW KK bits (.leaf k v) p wx (h.call hb))).mono (fun e w' ⟨h1,h2⟩=>⟨none,none,_,0,h1,by simp,rfl,rfl,h2⟩)
 |inner l r =>
  obtain⟨nb,pl,pr,n,rfl,hr,hl,hrr⟩:=h;have h64:(zJL KK bits l++zJL KK bits r).length=64:=by rw[List.length_append,(zDL KK bits l).len,(zDL KK bits r).len]
  exact(innerInner_calls _ (zFY pl pr _ n h64) (innerCells_one pl pr _ n) nb w (row_cell0 hr)).mono (fun e w' ⟨h1,h2⟩=>⟨pl,pr,_,n,h1,h64,hl,hrr,h2⟩)
theorem fieldInner0(lc:Array Value)(w:World):(Instr.field 188 (.agg lc) 0).run Tryz.prog w=.ok (.agg (lc.extract 0 2)) w:=by kernel_rfl
theorem innerCells_sub(pl pr:Option Addr)(ds:List Nat)(n:Int):(zBT pl pr ds n).extract 0 2=#[.pointer pl,.pointer pr]:=by
 unfold zBT;rw[show (2:Nat)=(#[Value.pointer pl,Value.pointer pr]:Array Value).size from rfl,Array.extract_append];simp
theorem indexPN0(x y:Value)(w:World):(Instr.index 185 (.agg #[x,y]) (.int .i64 0)).run Tryz.prog w=.ok x w:=by kernel_rfl
theorem indexPN1(x y:Value)(w:World):(Instr.index 185 (.agg #[x,y]) (.int .i64 1)).run Tryz.prog w=.ok y w:=by kernel_rfl
end
section
set_option maxHeartbeats 1000000
open Go Go.RowKit
attribute [local irreducible] Inv.wpInv Mix.wpUp
theorem fieldInner2(lc:Array Value)(v:Value)(h:lc[66]?=some v)(w:World):(Instr.field 188 (.agg lc) 2).run Tryz.prog w=.ok v w:=by
 have e:(Instr.field 188 (.agg lc) 2).run Tryz.prog w=(match lc[66]? with | some v=>pure v | none=>Go.stuck "part: no such cell" : Sem Value).run Tryz.prog w:=by kernel_rfl
 rw[e,h];rfl
theorem innerCells_n(pl pr:Option Addr)(ds:List Nat)(n:Int)(h:ds.length=64):(zBT pl pr ds n)[66]?=some (.int .i64 n):=by
 unfold zBT;rw[Array.getElem?_append_right (by show 2≤66;decide),Array.getElem?_append_right (by rw[zAF,h];show 64≤66 - 2;decide),zAF,h];rfl
theorem innerCells_digs(pl pr:Option Addr)(a b:List Nat)(n:Int)(ha:a.length=32)(hb:b.length=32):(zBT pl pr (a++b) n).extract 2 (2+32)=kv a∧(zBT pl pr (a++b) n).extract 34 (34+32)=kv b:=by
 constructor
 ·apply Array.ext'
  simp[zBT,←zBK,zCB,zAI,ha,hb,List.drop_append]
 ·apply Array.ext'
  simp[zBT,←zBK,zCB,zAI,ha,hb]
set_option maxRecDepth 20000 in
theorem LenT_calls(KK:List Int)(bits:Int)(t:Tr)(p:Option Addr)(w:World)(h:RepT KK bits w p t) :
  Calls Tryz.prog 192 #[.pointer p] w fun e w'=>∃n:Int,e=.returned (.int .i64 n)∧Below w.heap.size w w':=by
 have HI:=Lib.hid (inner_calls KK bits t p w h);have HK:=Lib.hid (zBW KK bits t p w h);clear h;have st:=St.init w
 by_cases hk:zBZ t=1
 ·rw[hk] at HK
  go_enter Tryz.func192,Tryz.ntmps192
  go_wp2_with (first
   |(go_at_call 39;refine HK.out.mono ?_;rintro e w2 ⟨rfl,rfl⟩))
  go_ret;exact⟨1,rfl,st.below⟩
 ·have hkb:(zBZ t==1)=false:=by simp[hk]
  go_enter Tryz.func192,Tryz.ntmps192
  go_wp2_with (first
   |(go_at_call 39;refine HK.out.mono ?_;rintro e w2 ⟨rfl,rfl⟩)
   |(go_at_call 158;refine HI.out.mono ?_;rintro e w2 ⟨pl,pr,ds,n,rfl,hds,hl,hr,hbel⟩;have st2:=st.call hbel;clear st hbel hl hr;have hq:=fieldInner2 _ _ (innerCells_n pl pr ds n hds) w2;generalize zBT pl pr ds n=ic at *))
  go_ret;exact⟨n,rfl,st2.below⟩
def zCH(t:Tr)(b:Int):Tr:=if b=0 then subL t else subR t
set_option maxRecDepth 20000 in
theorem leaf0_calls(p:Option Addr)(kk:Int)(hkk:kk≠1)(w:World)(hcall:∀wx,Below w.heap.size w wx→Calls Tryz.prog 39 #[.pointer p] wx fun e w'=>e=.returned (.int .i64 kk)∧w'=wx) :
  Calls Tryz.prog 77 #[.pointer p] w fun e w'=>e=.returned (.agg (zBI (List.replicate 32 0) (List.replicate 32 0) (.slice none 0 0)))∧Below w.heap.size w w':=by
 have HC:=Lib.hid hcall;have H1:=Lib.hid (zIN (List.replicate 32 0) (List.replicate 32 0) (.slice none 0 0) rfl);have H2:=Lib.hid builtLeafZero;have H3:=Lib.hid zIJ;have H4:Hid ((zBI (List.replicate 32 0) (List.replicate 32 0) (.slice none 0 0)).size=65):=by unfold Hid zBI;rw[Array.size_append,zAF];rfl
 clear hcall;generalize zBI (List.replicate 32 0) (List.replicate 32 0) (.slice none 0 0)=lc at *;have st:=St.init w;go_enter Tryz.func77,Tryz.ntmps77
 go_wp2_with (first
  |((with_reducible refine zAW 184 ?_);refine zAE st rfl 184 rfl _ H3.out ?_;intro b2 w1 st1;clear st)
  |(go_at_call 39;refine(HC.out _ st1.below).mono ?_;rintro e w2 ⟨rfl,rfl⟩)
  |((with_reducible refine zEG 184 ?_);refine zAM rfl 184 _ rfl [] ?_ _ H2.out ?_;(·(simp[Act.eval];done)))
  |((with_reducible refine zAN 184 ?_);refine zAA st1 rfl 184 _ _ rfl 0 b2 rfl (.agg lc) rfl _ _ rfl (by show _=some lc.size;rw[H4.out];exact zFC) rfl H1.out _ rfl ?_;intro w4 st4;clear st1))
 obtain⟨dL,hdL,hagg⟩:=aggNodeLeaf;exact zBX rfl b2 _ _ _ rfl (st4.at (i:=0) rfl) hdL hagg (by show _=some lc.size;rw[H4.out];exact zFC) rfl ⟨rfl,st4.below⟩
def zFW(KK:List Int)(bits:Int):Tr→List Nat
 |.leaf k v=>k++zBE KK bits (2::v)
 |_=>List.replicate 64 0
theorem zJC{KK:List Int}{bits:Int}{w:World}{p:Option Addr}{t:Tr}(h:RepT KK bits w p t):(zFW KK bits t).length=64:=by
 cases t with
 |leaf k v=>obtain⟨nb,a,c,rfl,hr,hv,hk,_⟩:=h;show (k++_).length=64;rw[List.length_append,hk.len,(zBG _ _ _).len]
 |_=>simp[zFW]
theorem zGF(KK:List Int)(bits:Int)(t:Tr)(p:Option Addr)(w:World)(h:RepT KK bits w p t) :
  Calls Tryz.prog 40 #[.pointer p] w fun e w'=>e=.returned (.agg (kv (zFW KK bits t)))∧Below w.heap.size w w':=by
 cases t with
 |nil=>obtain rfl:p=none:=h;exact LeafMNil_calls w
 |leaf k v=>obtain⟨nb,a,c,rfl,hr,hv,hk,_⟩:=h;exact LeafMLeaf_calls k _ _ rfl hk.len (zBG _ _ _).len nb w (row_cell0 hr)
 |inner l r=>exact LeafM_calls _ (List.replicate 64 0) (by simp) (zHW _ _ _ (by simp)) _ w fun wx hb=>leaf0_calls p 2 (by decide) wx fun wy hb2=>zBW KK bits (.inner l r) p wy ((h.call hb).call hb2)
def TPost(KK:List Int)(bits:Int)(hb cb:Nat)(n c:Int)(t:Tr)(w:World)(e:Ending)(w':World):Prop :=
 ∃p n',e=.returned (.pointer p)∧RepT KK bits w' p t∧w.grownBy w' (some cb)∧HasH hb cb bits n' w'∧n≤n'∧n'≤n+c
theorem DigestT_calls(KK:List Int)(t:Tr)(p:Option Addr)(hb cb:Nat)(bits n:Int)(w:World)(hh:HasH hb cb bits n w)(hB:0≤bits∧bits≤256)(hn:0≤n∧n≤4000000000000000000)(hK:HasK KK w)(h:RepT KK bits w p t) :
  Calls Tryz.prog 43 #[.pointer (some ⟨hb,0,none⟩),.pointer p] w fun e w'=>∃n',e=.returned (.agg (kv (zJL KK bits t)))∧w.grownBy w' (some cb)∧HasH hb cb bits n' w'∧n≤n'∧n'≤n+1:=by
 have key:∀(nb:Nat)(c:Value) (d:List Nat),d.length=32→w.heap[nb]?=some (.cells (zCF c d) 182 (0,0))→Calls Tryz.prog 43 #[.pointer (some ⟨hb,0,none⟩),.pointer (some ⟨nb,0,none⟩)] w fun e w'=>∃n',e=.returned (.agg (kv d))∧w.grownBy w' (some cb)∧HasH hb cb bits n' w'∧n≤n'∧n'≤n+1:=fun nb c d hd hr =>
  (zGR c d hd _ nb _ w hr).mono (fun e w' ⟨h1,h2⟩=>⟨n,h1,⟨h2.os,h2.tape,h2.output,h2.size,fun k hk _=>h2.block k hk⟩,hh.call h2,by omega,by omega⟩)
 cases t with
 |nil=>obtain rfl:p=none:=h;exact(DigestNil_calls KK hb cb bits n w hh hB (by omega) hK).mono (fun e w' ⟨h1,h2,h3⟩=>⟨n+1,h1,h2,h3,by omega,by omega⟩)
 |leaf k v=>obtain⟨nb,a,c,rfl,hr,_⟩:=h;exact key nb _ _ (zDL KK bits (.leaf k v)).len hr
 |inner l r=>obtain⟨nb,pl,pr,m,rfl,hr,_⟩:=h;exact key nb _ _ (zDL KK bits (.inner l r)).len hr
end
section
set_option maxHeartbeats 1000000
open Go Go.RowKit
attribute [local irreducible] Inv.wpInv Mix.wpUp
def shapeAr(P:Program)(t:TypeId):Option (Array Value×Nat) :=
 match P.info? t,P.underlying t with
 |some it,some (.array _ e) =>
  match it.zero,P.info? e with
  |some z,some ie=>some (z.cells,ie.size)
  |_,_=>none
 |_,_=>none
theorem builtA_fill{P:Program}{t:TypeId}{z:Array Value}{size:Nat}(h:shapeAr P t=some (z,size))(ps:List (Nat×Value)):P.built t ps=Instr.fill (fun i=>some (i*size,size)) z ps:=by
 unfold shapeAr at h;unfold Program.built
 split at h
 ·rename_i it n e h1 h2
  split at h
  ·rename_i z' ie h3 h4
   simp only[Option.some.injEq,Prod.mk.injEq] at h;obtain⟨rfl,rfl⟩:=h;simp only[h1,h2,h3,h4]
  ·cases h
 ·cases h
theorem shapePair:shapeAr Tryz.prog 185=some (#[.pointer none,.pointer none],1):=by kernel_rfl
theorem shapeDigs:shapeAr Tryz.prog 186=some (kv (List.replicate 32 0++List.replicate 32 0),32):=by kernel_rfl
theorem zeroPN2:(Tryz.prog.info? 185).bind (·.zero)=some (.agg #[.pointer none,.pointer none]):=by kernel_rfl
theorem sizePN2:(Tryz.prog.info? 185).map (·.size)=some 2:=by kernel_rfl
theorem aggPN2:∃d,Tryz.prog.underlying 185=some d∧zGJ d=true:=by
 have h:(Tryz.prog.underlying 185).map zGJ=some true:=by kernel_rfl
 cases hq:Tryz.prog.underlying 185 with
 |none=>rw[hq] at h;cases h
 |some d=>rw[hq] at h;exact⟨d,rfl,Option.some.inj h⟩
theorem builtPair(p q:Option Addr):Tryz.prog.built 185 (zBB 0 [.pointer p,.pointer q])=some #[.pointer p,.pointer q]:=by
 rw[builtA_fill shapePair];rfl
theorem builtDigs(a b:List Nat)(ha:a.length=32)(hb:b.length=32):Tryz.prog.built 186 (zBB 0 [.agg (kv a),.agg (kv b)])=some (kv (a++b)):=by
 rw[builtA_fill shapeDigs];have e0:kv (List.replicate 32 0++List.replicate 32 0)=(zAJ (List.replicate 32 0)++zAJ (List.replicate 32 0)).toArray:=by rw[←zCB,zBK]
 rw[show zBB 0 [.agg (kv a),.agg (kv b)]=[(0,Value.agg (kv a)),(1,Value.agg (kv b))] from rfl,e0,
  zEK (off:=0) (by simp[Value.cells,zAF,ha]) (by simp[Value.cells,zAF,ha,zAI])]
 have e1:=zEB [] (zAJ (List.replicate 32 0)) (zAJ (List.replicate 32 0)) (.agg (kv a)) 0 rfl (by simp[Value.cells,zAF,ha,zAI]);rw[List.nil_append,List.nil_append] at e1;rw[e1,zEK (off:=32) (by simp[Value.cells,zAF,hb]) (by simp[Value.cells,zAF,ha,hb,zAI])];have e2:=zEB (Value.agg (kv a)).cells.toList (zAJ (List.replicate 32 0)) [] (.agg (kv b)) 32 (by simp[Value.cells,zAF,ha]) (by simp[Value.cells,zAF,hb,zAI]);rw[List.append_nil,List.append_nil] at e2;rw[e2];simp[Instr.fill,Value.cells,←zBK,zCB]
theorem shapeInner:shapeOf Tryz.prog 188=some (67,[(0,2),(2,64),(66,1)]):=by kernel_rfl
theorem builtInner(p q:Option Addr)(ds:List Nat)(n:Int)(hd:ds.length=64):Tryz.prog.built 188 (zBB 0 [.agg #[.pointer p,.pointer q],.agg (kv ds),.int .i64 n])=some (zBT p q ds n):=by
 rw[zGW shapeInner [.agg #[.pointer p,.pointer q],.agg (kv ds),.int .i64 n] (by simp[consec,Value.cells,zAF,hd]) (by simp[catV,Value.cells,zCJ,zAI,hd])];simp[catV,Value.cells,zBT,←zBK]
theorem methInnerPre(v:Value)(w:World):(Go.method 474 188 v "sparsetree/node.preimage").run Tryz.prog w=.ok (246,v) w:=by kernel_rfl
theorem innerPreimage_calls(p q:Option Addr)(a b:List Nat)(n:Int)(ha:a.length=32)(hb:b.length=32)(w:World) :
  Calls Tryz.prog 246 #[.agg (zBT p q (a++b) n)] w fun e w'=>∃v',e=.returned v'∧RdB w' v' (1::(a++b))∧Below w.heap.size w w':=by
 have st:=St.init w;have HL:=Lib.hid (fun wx=>Node_calls a b ha hb wx);have HP:=Lib.hid (innerCells_digs p q a b n ha hb);have HS:Hid ((zBT p q (a++b) n).size=67):=zFY _ _ _ _ (by simp[ha,hb]);generalize zBT p q (a++b) n=lc at *;go_enter Tryz.func246,Tryz.ntmps246
 go_wp2_with (first
  |(refine zAD st rfl 188 _ rfl _ rfl ?_;intro b1 w1 st1;clear st)
  |((with_reducible refine zBA 38 ?_);first
    |refine zAP rfl 38 _ rfl b1 2 32 rfl zFZ _ _ _ (st1.at (i:=0) rfl) zBV (by rw[HS.out];decide) _ HP.out.1 ?_
    |refine zAP rfl 38 _ rfl b1 34 32 rfl zFZ _ _ _ (st1.at (i:=0) rfl) zBV (by rw[HS.out];decide) _ HP.out.2 ?_)
  |(go_at_call 138;refine(HL.out _).mono ?_;rintro e w2 ⟨v2,rfl,hrd,hbel⟩;have st2:=st1.call hbel;clear hbel st1))
 go_ret;exact⟨_,rfl,hrd,st2.below⟩
set_option maxRecDepth 20000 in
theorem withInner_calls(KK:List Int)(p q:Option Addr)(a b:List Nat)(m:Int)(hb cb:Nat)(bits n:Int)(w:World)(hh:HasH hb cb bits n w)(hB:0≤bits∧bits≤256)(hn : -4611686018427387904≤n∧n≤4611686018427387904)
  (ha:Key a) (hv:Key b) (hK:HasK KK w) :
  Calls Tryz.prog 169 #[.pointer (some ⟨hb,0,none⟩),innerIface p q (a++b) m] w
   fun e w'=>∃nb,e=.returned (.pointer (some ⟨nb,0,none⟩))∧w.heap.size≤nb∧w'.heap[nb]?=some (.cells (zCF (innerIface p q (a++b) m) (zBE KK bits (1::(a++b)))) 182 (0,0))∧w.grownBy w' (some cb)∧HasH hb cb bits (n+1) w':=by
 have HH:=Lib.hid hh;have HBn:=Lib.hid (And.intro hB hn);have HKK:=Lib.hid hK;have HL:=Lib.hid (fun wx=>innerPreimage_calls p q a b m ha.len hv.len wx);have HBy:Hid (∀x∈1::(a++b),x<256):=fun x hx=>by
  rcases List.mem_cons.1 hx with rfl | hx
  ·decide
  ·rcases List.mem_append.1 hx with hx | hx
   ·exact ha.2 x hx
   ·exact hv.2 x hx
 have HLen:Hid ((1::(a++b)).length≤1099511627776):=by unfold Hid;simp[ha.len,hv.len]
 have HD:=Lib.hid (zBG KK bits (1::(a++b))).len;have HSum:=fun v2 wx h1 h2 h3=>zHQ KK (1::(a++b)) v2 hb cb bits n wx h1 HBn.out.1 HBn.out.2 HBy.out HLen.out h2 h3
 have HSum:=Lib.hid HSum;clear hh hB hn hK;have st:=StH.init HH.out (St.init w);unfold innerIface;generalize zBE KK bits (1::(a++b))=D at *;generalize hlc:zBT p q (a++b) m=lc at *;have hm:=methInnerPre (.agg lc) w;go_enter Tryz.func169,Tryz.ntmps169
 go_wp2_with (first
  |(go_at_call 246;refine(HL.out _).mono ?_;rintro e w2 ⟨v2,rfl,hrd,hbel⟩;have st2:=St.call st hbel;clear hbel st)
  |(go_at_call 82
    refine(HSum.out v2 _ (StH.has st2 HH.out) hrd (StH.hasK st2 HH.out HKK.out)).mono ?_;rintro e w3 ⟨rfl,hg,hh3⟩;have st3:=StH.sum st2 HH.out hg hh3;clear st2 hg hrd hh3)
  |(refine zAM rfl 182 _ rfl (zBB 0 [.iface 188 (.agg lc),.agg (kv D)]) ?_ _ (builtNode _ _ D HD.out) ?_;(·(simp[Act.eval,zBB];done)))
  |(refine zAD st3 rfl 182 _ rfl _ rfl ?_;intro b4 w4 st4;clear st3))
 go_ret;exact⟨b4,rfl,st4.above (i:=0) rfl,st4.at (i:=0) rfl,StH.grown st4,StH.has st4 HH.out⟩
end
section
set_option maxHeartbeats 4000000
open Go Go.RowKit
attribute [local irreducible] Inv.wpInv Mix.wpUp
def joinT:Tr→Tr→Tr
 |.nil,.inner a b=>.inner .nil (.inner a b)
 |.nil,.nil=>.nil
 |.nil,.leaf k v=>.leaf k v
 |.leaf k v,.nil=>.leaf k v
 |.leaf k v,.leaf k' v'=>.inner (.leaf k v) (.leaf k' v')
 |.leaf k v,.inner a b=>.inner (.leaf k v) (.inner a b)
 |.inner a b,r=>.inner (.inner a b) r
theorem StH.rep{w wx:World}{hb cb:Nat}{bits n m:Int}{L:List (Nat×Array Value×TypeId)}(st:StH w cb m L wx)(hh:HasH hb cb bits n w){KK:List Int}{bt:Int}{p:Option Addr}{t:Tr}(h:RepT KK bt w p t):RepT KK bt wx p t:=h.turn hh st.grown
set_option maxRecDepth 20000 in
theorem JoinIn_calls(KK:List Int)(l r:Tr)(p q:Option Addr)(hb cb:Nat)(bits n:Int)(w:World)(hh:HasH hb cb bits n w)(hB:0≤bits∧bits≤256)(hn:0≤n∧n≤3999999999999999990)
  (hK:HasK KK w) (hl:RepT KK bits w p l) (hr:RepT KK bits w q r) (hne:(l=.nil∧zBZ r=2)∨(r=.nil∧zBZ l=2)∨(l≠.nil∧r≠.nil)) :
  Calls Tryz.prog 168 #[.pointer (some ⟨hb,0,none⟩),.pointer p,.pointer q] w (TPost KK bits hb cb n 3 (.inner l r) w):=by
 have HH:=Lib.hid hh;have HN:=Lib.hid hn;have HKK:=Lib.hid hK;have HRl:=Lib.hid hl;have HRr:=Lib.hid hr;have HKl:=Lib.hid (zBW KK bits l p w hl);have HKr:=Lib.hid (zBW KK bits r q w hr);have HDl:=Lib.hid (fun m wx h1 h2 h3 h4=>DigestT_calls KK l p hb cb bits m wx h1 hB h2 h3 h4);have HDr:=Lib.hid (fun m wx h1 h2 h3 h4=>DigestT_calls KK r q hb cb bits m wx h1 hB h2 h3 h4);have HLl:=Lib.hid (fun wx h=>LenT_calls KK bits l p wx h);have HLr:=Lib.hid (fun wx h=>LenT_calls KK bits r q wx h);have hkl:=zDL KK bits l;have hkr:=zDL KK bits r;have HW:=Lib.hid (fun m m' wx h1 h2 h3=>withInner_calls KK p q (zJL KK bits l) (zJL KK bits r) m' hb cb bits m wx h1 hB h2 hkl hkr h3);have HBd:=Lib.hid (builtDigs (zJL KK bits l) (zJL KK bits r) hkl.len hkr.len);have HBi:=Lib.hid (fun m=>builtInner p q (zJL KK bits l++zJL KK bits r) m (by rw[List.length_append,hkl.len,hkr.len]));have HBp:=Lib.hid (builtPair p q)
 have HPo:=Lib.hid (fun (e:Ending) (w':World) nb m n' (he:e=.returned (.pointer (some ⟨nb,0,none⟩))) (hrow:w'.heap[nb]?=some (.cells (zCF (innerIface p q (zJL KK bits l++zJL KK bits r) m) (zBE KK bits (1::(zJL KK bits l++zJL KK bits r)))) 182 (0,0))) (h1:RepT KK bits w' p l) (h2:RepT KK bits w' q r) (hg:w.grownBy w' (some cb)) (hh':HasH hb cb bits n' w') (a:n≤n') (b:n'≤n+3) =>
  (show TPost KK bits hb cb n 3 (.inner l r) w e w' from ⟨_,n',he,⟨nb,p,q,m,rfl,hrow,h1,h2⟩,hg,hh',a,b⟩))
 have H1p:Hid (∀u∈(#[Value.pointer p,Value.pointer q]:Array Value).toList,u.oneCell'=true):=by intro u hu;simp at hu;rcases hu with rfl | rfl<;>rfl
 have hfl:=hl.form;have hfr:=hr.form;have hk2:∀t,zBZ t=2→t≠.nil:=fun t h e=>by rw[e] at h;cases h
 obtain⟨dP,hdP,haP⟩:=aggPN2;clear hh hK hl hr hn hkl hkr;generalize hR:TPost KK bits hb cb n 3 (.inner l r) w=R at *;clear hR;generalize hdl:zJL KK bits l=Dl at *;generalize hdr:zJL KK bits r=Dr at *;generalize zBE KK bits (1::(Dl++Dr))=DD at *;have st:=StH.init HH.out (St.init w);have hcase:(p=none∧(∃nb,q=some ⟨nb,0,none⟩)∧zBZ r=2)∨((∃nb,p=some ⟨nb,0,none⟩)∧q=none∧zBZ l=2)∨((∃nb,p=some ⟨nb,0,none⟩)∧(∃nb,q=some ⟨nb,0,none⟩)):=by
  rcases hne with ⟨h1,h2⟩ | ⟨h1,h2⟩ | ⟨h1,h2⟩
  ·rcases hfl with ⟨_,h3⟩ | ⟨h3,_⟩
   ·rcases hfr with ⟨h4,_⟩ | ⟨_,h4⟩
    ·exact absurd h4 (hk2 r h2)
    ·exact .inl ⟨h3,h4,h2⟩
   ·exact absurd h1 h3
  ·rcases hfr with ⟨_,h3⟩ | ⟨h3,_⟩
   ·rcases hfl with ⟨h4,_⟩ | ⟨_,h4⟩
    ·exact absurd h4 (hk2 l h2)
    ·exact .inr (.inl ⟨h4,h3,h2⟩)
   ·exact absurd h1 h3
  ·rcases hfl with ⟨h3,_⟩ | ⟨_,h3⟩
   ·exact absurd h3 h1
   ·rcases hfr with ⟨h4,_⟩ | ⟨_,h4⟩
    ·exact absurd h4 h2
    ·exact .inr (.inr ⟨h3,h4⟩)
 clear hne hfl hfr hk2;rcases hcase with ⟨rfl,⟨b2,rfl⟩,hk⟩ | ⟨⟨b1,rfl⟩,rfl,hk⟩ | ⟨⟨b1,rfl⟩,⟨b2,rfl⟩⟩
 ·rw[hk] at HKr
  have HK1:=HKr;clear HKl HKr hk;go_enter Tryz.func168,Tryz.ntmps168;go_upto_region 6 with (first
   |(go_at_call 39;refine HK1.out.mono ?_;rintro e w2 ⟨rfl,hw2⟩;obtain rfl:=hw2.symm)
   |((with_reducible refine zEG 185 ?_);refine zAM rfl 185 _ rfl (zBB 0 [.pointer none,.pointer (some ⟨b2,0,none⟩)]) ?_ _ HBp.out ?_;(·(simp[Act.eval,zBB];done)))
   |((with_reducible refine zAW 185 ?_);refine zAE st rfl 185 rfl _ zeroPN2 ?_;intro b7 w1 st1;clear st)
   |((with_reducible refine zAN 185 ?_);refine zAA st1 rfl 185 _ _ rfl 0 b7 rfl (.agg #[.pointer none,.pointer (some ⟨b2,0,none⟩)]) rfl _ _ rfl sizePN2 rfl H1p.out _ rfl ?_;intro w4 st4;clear st1))
  refine Mix2.wp_region_mix (J:=fun wx=>∃m,StH w cb m [(b7,#[.pointer none,.pointer (some ⟨b2,0,none⟩)],185)] wx) 16 (StH w cb n [(b7,#[.pointer none,.pointer (some ⟨b2,0,none⟩)],185)]) zBL (by kernel_rfl) st4.drew ?_;intro F inv;refine Mix2.good_batch (f:=8) F St.up (fun _ h=>⟨_,h⟩) [0,1,2,3,5,6,9,11] _ _ inv (by kernel_rfl) ?_;clear inv st4
  iterate 1
   (refine Mix.wpUp_cons rfl (fun K hK=>?_);go_simp;apply zAU;· (intro wx hw;go_simp;(try go_ints);(try go_simp);(try (rw[if_pos (by omega)]));(try go_simp);(first | done | rfl))
    refine hK _ ?_;clear hK K)
  (refine Mix.wpUp_cons rfl (fun K hK=>?_);go_simp;refine zFB 185 _ rfl b7 rfl _ hdP haP _ _ (fun wx hw=>hw.choose_spec.at (i:=0) rfl) sizePN2 ?_
   refine hK _ ?_;clear hK K)
  iterate 6
   (refine Mix.wpUp_cons rfl (fun K hK=>?_);go_simp;apply zAU;· (intro wx hw;go_simp;(try go_ints);(try go_simp);(try (rw[if_pos (by omega)]));(try go_simp);(first | done | rfl))
    refine hK _ ?_;clear hK K)
  refine Mix.wpUp_nil ?_;intro inv;refine Mix2.good_one (i:=4) (f:=7) (by kernel_rfl) inv (fun w4 st4=>?_);clear inv;refine zAT rfl rfl 43 #[.pointer (some ⟨hb,0,none⟩),.pointer none] (by go_simp) ?_;refine(HDl.out n _ (StH.has st4 HH.out) (by have:=HN.out;omega) (StH.hasK st4 HH.out HKK.out) (StH.rep st4 HH.out HRl.out)).mono ?_;rintro e w5 ⟨n1,rfl,hg,hh5,ha1,hb1⟩;have st5:=StH.sum st4 HH.out hg hh5;refine⟨_,rfl,StH w cb n1 [(b7,#[.pointer none,.pointer (some ⟨b2,0,none⟩)],185)],St.up,st5,fun _ h=>⟨_,h⟩,fun inv=>?_⟩;clear st4 st5 hg hh5;refine Mix2.good_one (i:=7) (f:=6) (by kernel_rfl) inv (fun w6 st6=>?_);clear inv;refine zAT rfl rfl 43 #[.pointer (some ⟨hb,0,none⟩),.pointer (some ⟨b2,0,none⟩)] (by go_simp) ?_;refine(HDr.out n1 _ (StH.has st6 HH.out) (by have:=HN.out;omega) (StH.hasK st6 HH.out HKK.out) (StH.rep st6 HH.out HRr.out)).mono ?_;rintro e w7 ⟨n2,rfl,hg,hh7,ha2,hb2⟩;have st7:=StH.sum st6 HH.out hg hh7;refine⟨_,rfl,StH w cb n2 [(b7,#[.pointer none,.pointer (some ⟨b2,0,none⟩)],185)],St.up,st7,fun _ h=>⟨_,h⟩,fun inv=>?_⟩;clear st6 st7 hg hh7;refine Mix2.good_batch (f:=5) F St.up (fun _ h=>⟨_,h⟩) [8] _ _ inv (by kernel_rfl) ?_;clear inv
  (refine Mix.wpUp_cons rfl (fun K hK=>?_);go_simp;refine zFN 186 _ rfl (zBB 0 [.agg (kv Dl),.agg (kv Dr)]) (by simp[Act.eval,zBB]) _ HBd.out ?_
   refine hK _ ?_;clear hK K)
  refine Mix.wpUp_nil ?_;intro inv;refine Mix2.good_one (i:=10) (f:=4) (by kernel_rfl) inv (fun w8 st8=>?_);clear inv;refine zAT rfl rfl 192 #[.pointer none] (by go_simp) ?_;refine(HLl.out _ (StH.rep st8 HH.out HRl.out)).mono ?_;rintro e w9 ⟨m1,rfl,hbel⟩;have st9:=St.call st8 hbel;refine⟨_,rfl,StH w cb n2 [(b7,#[.pointer none,.pointer (some ⟨b2,0,none⟩)],185)],St.up,st9,fun _ h=>⟨_,h⟩,fun inv=>?_⟩;clear st8 st9 hbel;refine Mix2.good_one (i:=12) (f:=3) (by kernel_rfl) inv (fun w8 st8=>?_);clear inv;refine zAT rfl rfl 192 #[.pointer (some ⟨b2,0,none⟩)] (by go_simp) ?_;refine(HLr.out _ (StH.rep st8 HH.out HRr.out)).mono ?_;rintro e w9 ⟨m2,rfl,hbel⟩;have st9:=St.call st8 hbel;refine⟨_,rfl,StH w cb n2 [(b7,#[.pointer none,.pointer (some ⟨b2,0,none⟩)],185)],St.up,st9,fun _ h=>⟨_,h⟩,fun inv=>?_⟩;clear st8 st9 hbel;refine Mix2.good_batch (f:=0) F St.up (fun _ h=>⟨_,h⟩) [13,14,15] _ _ inv (by kernel_rfl) ?_;clear inv
  iterate 1
   (refine Mix.wpUp_cons rfl (fun K hK=>?_);go_simp;apply zAU;· (intro wx hw;go_simp;(try go_ints);(try go_simp);(try (rw[if_pos (by omega)]));(try go_simp);(first | done | rfl))
    refine hK _ ?_;clear hK K)
  (refine Mix.wpUp_cons rfl (fun K hK=>?_);go_simp;refine zFN 188 _ rfl (zBB 0 [.agg #[.pointer none,.pointer (some ⟨b2,0,none⟩)],.agg (kv (Dl++Dr)),.int .i64 (wrap64 (m1+m2))]) (by simp[Act.eval,zBB]) _ (HBi.out _) ?_
   refine hK _ ?_;clear hK K)
  iterate 1
   (refine Mix.wpUp_cons rfl (fun K hK=>?_);go_simp;apply zAU;· (intro wx hw;go_simp;(try go_ints);(try go_simp);(try (rw[if_pos (by omega)]));(try go_simp);(first | done | rfl))
    refine hK _ ?_;clear hK K)
  refine Mix.wpUp_nil ?_;intro inv;clear inv F;refine⟨by kernel_rfl,fun w8 st8=>?_⟩;simp only[List.drop_succ_cons,List.drop_zero];generalize wrap64 (m1+m2)=m3
  go_wp2_with (first
   |(go_at_call 169
     refine(HW.out n2 m3 w8 (StH.has st8 HH.out) (by have:=HN.out;omega) (StH.hasK st8 HH.out HKK.out)).mono ?_;rintro e w9 ⟨nb,rfl,hnb,hrow,hg,hh9⟩))
  have st9:=StH.sum st8 HH.out hg hh9;exact HPo.out _ _ nb m3 (n2+1) rfl hrow (StH.rep st9 HH.out HRl.out) (StH.rep st9 HH.out HRr.out) (StH.grown st9) hh9 (by omega) (by omega)
 ·rw[hk] at HKl
  have HK1:=HKl;clear HKl HKr hk;go_enter Tryz.func168,Tryz.ntmps168;go_upto_region 6 with (first
   |(go_at_call 39;refine HK1.out.mono ?_;rintro e w2 ⟨rfl,hw2⟩;obtain rfl:=hw2.symm)
   |((with_reducible refine zEG 185 ?_);refine zAM rfl 185 _ rfl (zBB 0 [.pointer (some ⟨b1,0,none⟩),.pointer none]) ?_ _ HBp.out ?_;(·(simp[Act.eval,zBB];done)))
   |((with_reducible refine zAW 185 ?_);refine zAE st rfl 185 rfl _ zeroPN2 ?_;intro b7 w1 st1;clear st)
   |((with_reducible refine zAN 185 ?_);refine zAA st1 rfl 185 _ _ rfl 0 b7 rfl (.agg #[.pointer (some ⟨b1,0,none⟩),.pointer none]) rfl _ _ rfl sizePN2 rfl H1p.out _ rfl ?_;intro w4 st4;clear st1))
  refine Mix2.wp_region_mix (J:=fun wx=>∃m,StH w cb m [(b7,#[.pointer (some ⟨b1,0,none⟩),.pointer none],185)] wx) 16 (StH w cb n [(b7,#[.pointer (some ⟨b1,0,none⟩),.pointer none],185)]) zBL (by kernel_rfl) st4.drew ?_;intro F inv;refine Mix2.good_batch (f:=8) F St.up (fun _ h=>⟨_,h⟩) [0,1,2,3,5,6,9,11] _ _ inv (by kernel_rfl) ?_;clear inv st4
  iterate 1
   (refine Mix.wpUp_cons rfl (fun K hK=>?_);go_simp;apply zAU;· (intro wx hw;go_simp;(try go_ints);(try go_simp);(try (rw[if_pos (by omega)]));(try go_simp);(first | done | rfl))
    refine hK _ ?_;clear hK K)
  (refine Mix.wpUp_cons rfl (fun K hK=>?_);go_simp;refine zFB 185 _ rfl b7 rfl _ hdP haP _ _ (fun wx hw=>hw.choose_spec.at (i:=0) rfl) sizePN2 ?_
   refine hK _ ?_;clear hK K)
  iterate 6
   (refine Mix.wpUp_cons rfl (fun K hK=>?_);go_simp;apply zAU;· (intro wx hw;go_simp;(try go_ints);(try go_simp);(try (rw[if_pos (by omega)]));(try go_simp);(first | done | rfl))
    refine hK _ ?_;clear hK K)
  refine Mix.wpUp_nil ?_;intro inv;refine Mix2.good_one (i:=4) (f:=7) (by kernel_rfl) inv (fun w4 st4=>?_);clear inv;refine zAT rfl rfl 43 #[.pointer (some ⟨hb,0,none⟩),.pointer (some ⟨b1,0,none⟩)] (by go_simp) ?_;refine(HDl.out n _ (StH.has st4 HH.out) (by have:=HN.out;omega) (StH.hasK st4 HH.out HKK.out) (StH.rep st4 HH.out HRl.out)).mono ?_;rintro e w5 ⟨n1,rfl,hg,hh5,ha1,hb1⟩;have st5:=StH.sum st4 HH.out hg hh5;refine⟨_,rfl,StH w cb n1 [(b7,#[.pointer (some ⟨b1,0,none⟩),.pointer none],185)],St.up,st5,fun _ h=>⟨_,h⟩,fun inv=>?_⟩;clear st4 st5 hg hh5;refine Mix2.good_one (i:=7) (f:=6) (by kernel_rfl) inv (fun w6 st6=>?_);clear inv;refine zAT rfl rfl 43 #[.pointer (some ⟨hb,0,none⟩),.pointer none] (by go_simp) ?_;refine(HDr.out n1 _ (StH.has st6 HH.out) (by have:=HN.out;omega) (StH.hasK st6 HH.out HKK.out) (StH.rep st6 HH.out HRr.out)).mono ?_;rintro e w7 ⟨n2,rfl,hg,hh7,ha2,hb2⟩;have st7:=StH.sum st6 HH.out hg hh7;refine⟨_,rfl,StH w cb n2 [(b7,#[.pointer (some ⟨b1,0,none⟩),.pointer none],185)],St.up,st7,fun _ h=>⟨_,h⟩,fun inv=>?_⟩;clear st6 st7 hg hh7;refine Mix2.good_batch (f:=5) F St.up (fun _ h=>⟨_,h⟩) [8] _ _ inv (by kernel_rfl) ?_;clear inv
  (refine Mix.wpUp_cons rfl (fun K hK=>?_);go_simp;refine zFN 186 _ rfl (zBB 0 [.agg (kv Dl),.agg (kv Dr)]) (by simp[Act.eval,zBB]) _ HBd.out ?_
   refine hK _ ?_;clear hK K)
  refine Mix.wpUp_nil ?_;intro inv;refine Mix2.good_one (i:=10) (f:=4) (by kernel_rfl) inv (fun w8 st8=>?_);clear inv;refine zAT rfl rfl 192 #[.pointer (some ⟨b1,0,none⟩)] (by go_simp) ?_;refine(HLl.out _ (StH.rep st8 HH.out HRl.out)).mono ?_;rintro e w9 ⟨m1,rfl,hbel⟩;have st9:=St.call st8 hbel;refine⟨_,rfl,StH w cb n2 [(b7,#[.pointer (some ⟨b1,0,none⟩),.pointer none],185)],St.up,st9,fun _ h=>⟨_,h⟩,fun inv=>?_⟩;clear st8 st9 hbel;refine Mix2.good_one (i:=12) (f:=3) (by kernel_rfl) inv (fun w8 st8=>?_);clear inv;refine zAT rfl rfl 192 #[.pointer none] (by go_simp) ?_;refine(HLr.out _ (StH.rep st8 HH.out HRr.out)).mono ?_;rintro e w9 ⟨m2,rfl,hbel⟩;have st9:=St.call st8 hbel;refine⟨_,rfl,StH w cb n2 [(b7,#[.pointer (some ⟨b1,0,none⟩),.pointer none],185)],St.up,st9,fun _ h=>⟨_,h⟩,fun inv=>?_⟩;clear st8 st9 hbel;refine Mix2.good_batch (f:=0) F St.up (fun _ h=>⟨_,h⟩) [13,14,15] _ _ inv (by kernel_rfl) ?_;clear inv
  iterate 1
   (refine Mix.wpUp_cons rfl (fun K hK=>?_);go_simp;apply zAU;· (intro wx hw;go_simp;(try go_ints);(try go_simp);(try (rw[if_pos (by omega)]));(try go_simp);(first | done | rfl))
    refine hK _ ?_;clear hK K)
  (refine Mix.wpUp_cons rfl (fun K hK=>?_);go_simp;refine zFN 188 _ rfl (zBB 0 [.agg #[.pointer (some ⟨b1,0,none⟩),.pointer none],.agg (kv (Dl++Dr)),.int .i64 (wrap64 (m1+m2))]) (by simp[Act.eval,zBB]) _ (HBi.out _) ?_
   refine hK _ ?_;clear hK K)
  iterate 1
   (refine Mix.wpUp_cons rfl (fun K hK=>?_);go_simp;apply zAU;· (intro wx hw;go_simp;(try go_ints);(try go_simp);(try (rw[if_pos (by omega)]));(try go_simp);(first | done | rfl))
    refine hK _ ?_;clear hK K)
  refine Mix.wpUp_nil ?_;intro inv;clear inv F;refine⟨by kernel_rfl,fun w8 st8=>?_⟩;simp only[List.drop_succ_cons,List.drop_zero];generalize wrap64 (m1+m2)=m3
  go_wp2_with (first
   |(go_at_call 169
     refine(HW.out n2 m3 w8 (StH.has st8 HH.out) (by have:=HN.out;omega) (StH.hasK st8 HH.out HKK.out)).mono ?_;rintro e w9 ⟨nb,rfl,hnb,hrow,hg,hh9⟩))
  have st9:=StH.sum st8 HH.out hg hh9;exact HPo.out _ _ nb m3 (n2+1) rfl hrow (StH.rep st9 HH.out HRl.out) (StH.rep st9 HH.out HRr.out) (StH.grown st9) hh9 (by omega) (by omega)
 ·have HK1:=HKl
  clear HKl HKr;go_enter Tryz.func168,Tryz.ntmps168;go_upto_region 6 with (first
   |(go_at_call 39;refine HK1.out.mono ?_;rintro e w2 ⟨rfl,hw2⟩;obtain rfl:=hw2.symm)
   |((with_reducible refine zEG 185 ?_);refine zAM rfl 185 _ rfl (zBB 0 [.pointer (some ⟨b1,0,none⟩),.pointer (some ⟨b2,0,none⟩)]) ?_ _ HBp.out ?_;(·(simp[Act.eval,zBB];done)))
   |((with_reducible refine zAW 185 ?_);refine zAE st rfl 185 rfl _ zeroPN2 ?_;intro b7 w1 st1;clear st)
   |((with_reducible refine zAN 185 ?_);refine zAA st1 rfl 185 _ _ rfl 0 b7 rfl (.agg #[.pointer (some ⟨b1,0,none⟩),.pointer (some ⟨b2,0,none⟩)]) rfl _ _ rfl sizePN2 rfl H1p.out _ rfl ?_;intro w4 st4;clear st1))
  refine Mix2.wp_region_mix (J:=fun wx=>∃m,StH w cb m [(b7,#[.pointer (some ⟨b1,0,none⟩),.pointer (some ⟨b2,0,none⟩)],185)] wx) 16 (StH w cb n [(b7,#[.pointer (some ⟨b1,0,none⟩),.pointer (some ⟨b2,0,none⟩)],185)]) zBL (by kernel_rfl) st4.drew ?_;intro F inv;refine Mix2.good_batch (f:=8) F St.up (fun _ h=>⟨_,h⟩) [0,1,2,3,5,6,9,11] _ _ inv (by kernel_rfl) ?_;clear inv st4
  iterate 1
   (refine Mix.wpUp_cons rfl (fun K hK=>?_);go_simp;apply zAU;· (intro wx hw;go_simp;(try go_ints);(try go_simp);(try (rw[if_pos (by omega)]));(try go_simp);(first | done | rfl))
    refine hK _ ?_;clear hK K)
  (refine Mix.wpUp_cons rfl (fun K hK=>?_);go_simp;refine zFB 185 _ rfl b7 rfl _ hdP haP _ _ (fun wx hw=>hw.choose_spec.at (i:=0) rfl) sizePN2 ?_
   refine hK _ ?_;clear hK K)
  iterate 6
   (refine Mix.wpUp_cons rfl (fun K hK=>?_);go_simp;apply zAU;· (intro wx hw;go_simp;(try go_ints);(try go_simp);(try (rw[if_pos (by omega)]));(try go_simp);(first | done | rfl))
    refine hK _ ?_;clear hK K)
  refine Mix.wpUp_nil ?_;intro inv;refine Mix2.good_one (i:=4) (f:=7) (by kernel_rfl) inv (fun w4 st4=>?_);clear inv;refine zAT rfl rfl 43 #[.pointer (some ⟨hb,0,none⟩),.pointer (some ⟨b1,0,none⟩)] (by go_simp) ?_;refine(HDl.out n _ (StH.has st4 HH.out) (by have:=HN.out;omega) (StH.hasK st4 HH.out HKK.out) (StH.rep st4 HH.out HRl.out)).mono ?_;rintro e w5 ⟨n1,rfl,hg,hh5,ha1,hb1⟩;have st5:=StH.sum st4 HH.out hg hh5;refine⟨_,rfl,StH w cb n1 [(b7,#[.pointer (some ⟨b1,0,none⟩),.pointer (some ⟨b2,0,none⟩)],185)],St.up,st5,fun _ h=>⟨_,h⟩,fun inv=>?_⟩;clear st4 st5 hg hh5;refine Mix2.good_one (i:=7) (f:=6) (by kernel_rfl) inv (fun w6 st6=>?_);clear inv;refine zAT rfl rfl 43 #[.pointer (some ⟨hb,0,none⟩),.pointer (some ⟨b2,0,none⟩)] (by go_simp) ?_;refine(HDr.out n1 _ (StH.has st6 HH.out) (by have:=HN.out;omega) (StH.hasK st6 HH.out HKK.out) (StH.rep st6 HH.out HRr.out)).mono ?_;rintro e w7 ⟨n2,rfl,hg,hh7,ha2,hb2⟩;have st7:=StH.sum st6 HH.out hg hh7;refine⟨_,rfl,StH w cb n2 [(b7,#[.pointer (some ⟨b1,0,none⟩),.pointer (some ⟨b2,0,none⟩)],185)],St.up,st7,fun _ h=>⟨_,h⟩,fun inv=>?_⟩;clear st6 st7 hg hh7
  refine Mix2.good_batch (f:=5) F St.up (fun _ h=>⟨_,h⟩) [8] _ _ inv (by kernel_rfl) ?_;clear inv
  (refine Mix.wpUp_cons rfl (fun K hK=>?_);go_simp;refine zFN 186 _ rfl (zBB 0 [.agg (kv Dl),.agg (kv Dr)]) (by simp[Act.eval,zBB]) _ HBd.out ?_
   refine hK _ ?_;clear hK K)
  refine Mix.wpUp_nil ?_;intro inv;refine Mix2.good_one (i:=10) (f:=4) (by kernel_rfl) inv (fun w8 st8=>?_);clear inv;refine zAT rfl rfl 192 #[.pointer (some ⟨b1,0,none⟩)] (by go_simp) ?_;refine(HLl.out _ (StH.rep st8 HH.out HRl.out)).mono ?_;rintro e w9 ⟨m1,rfl,hbel⟩;have st9:=St.call st8 hbel;refine⟨_,rfl,StH w cb n2 [(b7,#[.pointer (some ⟨b1,0,none⟩),.pointer (some ⟨b2,0,none⟩)],185)],St.up,st9,fun _ h=>⟨_,h⟩,fun inv=>?_⟩;clear st8 st9 hbel;refine Mix2.good_one (i:=12) (f:=3) (by kernel_rfl) inv (fun w8 st8=>?_);clear inv;refine zAT rfl rfl 192 #[.pointer (some ⟨b2,0,none⟩)] (by go_simp) ?_;refine(HLr.out _ (StH.rep st8 HH.out HRr.out)).mono ?_;rintro e w9 ⟨m2,rfl,hbel⟩;have st9:=St.call st8 hbel;refine⟨_,rfl,StH w cb n2 [(b7,#[.pointer (some ⟨b1,0,none⟩),.pointer (some ⟨b2,0,none⟩)],185)],St.up,st9,fun _ h=>⟨_,h⟩,fun inv=>?_⟩;clear st8 st9 hbel;refine Mix2.good_batch (f:=0) F St.up (fun _ h=>⟨_,h⟩) [13,14,15] _ _ inv (by kernel_rfl) ?_;clear inv
  iterate 1
   (refine Mix.wpUp_cons rfl (fun K hK=>?_);go_simp;apply zAU;· (intro wx hw;go_simp;(try go_ints);(try go_simp);(try (rw[if_pos (by omega)]));(try go_simp);(first | done | rfl))
    refine hK _ ?_;clear hK K)
  (refine Mix.wpUp_cons rfl (fun K hK=>?_);go_simp;refine zFN 188 _ rfl (zBB 0 [.agg #[.pointer (some ⟨b1,0,none⟩),.pointer (some ⟨b2,0,none⟩)],.agg (kv (Dl++Dr)),.int .i64 (wrap64 (m1+m2))]) (by simp[Act.eval,zBB]) _ (HBi.out _) ?_
   refine hK _ ?_;clear hK K)
  iterate 1
   (refine Mix.wpUp_cons rfl (fun K hK=>?_);go_simp;apply zAU;· (intro wx hw;go_simp;(try go_ints);(try go_simp);(try (rw[if_pos (by omega)]));(try go_simp);(first | done | rfl))
    refine hK _ ?_;clear hK K)
  refine Mix.wpUp_nil ?_;intro inv;clear inv F;refine⟨by kernel_rfl,fun w8 st8=>?_⟩;simp only[List.drop_succ_cons,List.drop_zero];generalize wrap64 (m1+m2)=m3
  go_wp2_with (first
   |(go_at_call 169
     refine(HW.out n2 m3 w8 (StH.has st8 HH.out) (by have:=HN.out;omega) (StH.hasK st8 HH.out HKK.out)).mono ?_;rintro e w9 ⟨nb,rfl,hnb,hrow,hg,hh9⟩))
  have st9:=StH.sum st8 HH.out hg hh9;exact HPo.out _ _ nb m3 (n2+1) rfl hrow (StH.rep st9 HH.out HRl.out) (StH.rep st9 HH.out HRr.out) (StH.grown st9) hh9 (by omega) (by omega)
theorem zIV(KK:List Int)(l r:Tr)(p q:Option Addr)(hb cb:Nat)(bits n:Int)(w:World)(hh:HasH hb cb bits n w)(hB:0≤bits∧bits≤256)(hn:0≤n∧n≤3999999999999999990)
  (hK:HasK KK w) (hl:RepT KK bits w p l) (hr:RepT KK bits w q r) :
  Calls Tryz.prog 168 #[.pointer (some ⟨hb,0,none⟩),.pointer p,.pointer q] w (TPost KK bits hb cb n 3 (joinT l r) w):=by
 have same:∀(t:Tr)(x:Option Addr),RepT KK bits w x t→TPost KK bits hb cb n 3 t w (.returned (.pointer x)) w:=fun t x h=>⟨x,n,rfl,h,World.grownBy.refl w _,hh,by omega,by omega⟩
 have first:∀(r:Tr)(q:Option Addr),zBZ r≠2→RepT KK bits w q r→Calls Tryz.prog 168 #[.pointer (some ⟨hb,0,none⟩),.pointer none,.pointer q] w (TPost KK bits hb cb n 3 r w):=by
  intro r q hk hr;have HK1:=Lib.hid (zBW KK bits r q w hr);have HS:=Lib.hid (same r q hr);have hkb:(zBZ r != 2)=true:=by simp[hk]
  clear hr hk same hl hh hK;generalize TPost KK bits hb cb n 3 r w=R at *;go_enter Tryz.func168,Tryz.ntmps168
  go_wp2_with (first
   |(go_at_call 39;refine HK1.out.mono ?_;rintro e w2 ⟨rfl,hw2⟩;obtain rfl:=hw2.symm))
  exact HS.out
 have second:∀(l:Tr)(p:Option Addr),zBZ l=1→RepT KK bits w p l→Calls Tryz.prog 168 #[.pointer (some ⟨hb,0,none⟩),.pointer p,.pointer none] w (TPost KK bits hb cb n 3 l w):=by
  intro l p hk hr;have HK1:=Lib.hid (zBW KK bits l p w hr);have HS:=Lib.hid (same l p hr);rw[hk] at HK1;obtain⟨_,b1,rfl⟩:l≠.nil∧∃nb,p=some ⟨nb,0,none⟩:=by
   rcases hr.form with ⟨h,_⟩ | h
   ·rw[h] at hk;cases hk
   ·exact h
  clear hr hk same hl hh hK;generalize TPost KK bits hb cb n 3 l w=R at *;go_enter Tryz.func168,Tryz.ntmps168
  go_wp2_with (first
   |(go_at_call 39;refine HK1.out.mono ?_;rintro e w2 ⟨rfl,hw2⟩;obtain rfl:=hw2.symm))
  exact HS.out
 have third:∀l r p q,RepT KK bits w p l→RepT KK bits w q r→((l=.nil∧zBZ r=2)∨(r=.nil∧zBZ l=2)∨(l≠.nil∧r≠.nil))→Calls Tryz.prog 168 #[.pointer (some ⟨hb,0,none⟩),.pointer p,.pointer q] w (TPost KK bits hb cb n 3 (.inner l r) w):=fun l r p q hl hr h=>JoinIn_calls KK l r p q hb cb bits n w hh hB hn hK hl hr h
 cases l with
 |nil =>
  have hp:p=none:=hl;subst hp
  cases r with
  |nil=>exact first _ q (by decide) hr
  |leaf k v=>exact first _ q (by show (1:Int)≠2;decide) hr
  |inner a b=>exact third _ _ _ _ hl hr (.inl ⟨rfl,rfl⟩)
 |leaf k v =>
  cases r with
  |nil=>obtain rfl:q=none:=hr;exact second _ p rfl hl
  |leaf k' v'=>exact third _ _ _ _ hl hr (.inr (.inr ⟨by simp,by simp⟩))
  |inner a b=>exact third _ _ _ _ hl hr (.inr (.inr ⟨by simp,by simp⟩))
 |inner a b =>
  cases r with
  |nil=>exact third _ _ _ _ hl hr (.inr (.inl ⟨rfl,rfl⟩))
  |leaf k' v'=>exact third _ _ _ _ hl hr (.inr (.inr ⟨by simp,by simp⟩))
  |inner c d=>exact third _ _ _ _ hl hr (.inr (.inr ⟨by simp,by simp⟩))
end
section
set_option maxHeartbeats 2000000
open Go Go.RowKit
attribute [local irreducible] Inv.wpInv Mix.wpUp
def jo(k:List Nat)(d:Int)(n b:Tr):Tr:=if zDQ k d=0 then joinT n b else joinT b n
theorem TPost.after{KK:List Int}{bits:Int}{hb cb:Nat}{n n1 c c':Int}{t:Tr}{w w1:World}(hg:w.grownBy w1 (some cb))(h1:n≤n1)(h2:n1+c'≤n+c){e:Ending}{w':World}(h:TPost KK bits hb cb n1 c' t w1 e w'):TPost KK bits hb cb n c t w e w':=by
 obtain⟨p,n',he,hr,hg',hh',a,b⟩:=h;exact⟨p,n',he,hr,hg.trans hg',hh',by omega,by omega⟩
set_option maxRecDepth 20000 in
theorem PJoin_calls(KK:List Int)(t b:Tr)(p q:Option Addr)(k:List Nat)(hk:Key k)(d:Int)(hb cb:Nat)(bits n:Int)(w:World)(hh:HasH hb cb bits n w)(hB:0≤bits∧bits≤256)(hn:0≤n∧n≤3999999999999999990)
  (hK:HasK KK w) (hl:RepT KK bits w p t) (hr:RepT KK bits w q b) :
  Calls Tryz.prog 142 #[.pointer (some ⟨hb,0,none⟩),.pointer p,.pointer q,.agg (kv k),.int .i64 d] w (TPost KK bits hb cb n 3 (jo k d t b) w):=by
 have HH:=Lib.hid hh;have HKK:=Lib.hid hK;have HL:=Lib.hid hl;have HR:=Lib.hid hr;have Hk:=Lib.hid hk.len;have HBit:=Lib.hid (fun wx=>zIC k hk d wx);have HJ1:=Lib.hid (fun wx h1 h2 h3 h4=>zIV KK t b p q hb cb bits n wx h1 hB hn h2 h3 h4);have HJ2:=Lib.hid (fun wx h1 h2 h3 h4=>zIV KK b t q p hb cb bits n wx h1 hB hn h2 h3 h4);clear hh hK hl hr hk hB hn;have st:=St.init w;unfold jo;generalize zDQ k d=bt at *
 by_cases hbt:bt=0
 ·subst hbt
  rw[if_pos rfl];have HE:=Lib.hid (fun (e:Ending) (w' w1:World) (st1:StH w cb n [] w1) (h:TPost KK bits hb cb n 3 (joinT t b) w1 e w')=>TPost.after (n:=n) (c:=3) (StH.grown st1) (Int.le_refl _) (by omega) h);generalize TPost KK bits hb cb n 3 (joinT t b) w=R at *;go_enter Tryz.func142,Tryz.ntmps142
  go_wp2_with (first
   |(refine zAD st rfl 37 _ rfl (kv k) rfl ?_;intro b8 w1 st1;clear st)
   |((with_reducible refine zBA 37 ?_);refine zAC rfl 37 _ rfl b8 rfl _ zBF rfl _ _ (st1.at (i:=0) rfl) (zAX Hk.out) ?_)
   |(go_at_call 79;refine(HBit.out _).mono ?_;rintro e w2 ⟨rfl,hbel⟩;have st2:=StH.init HH.out (st1.call hbel);clear hbel st1)
   |(go_at_call 168;refine(HJ1.out _ (StH.has st2 HH.out) (StH.hasK st2 HH.out HKK.out) (StH.rep st2 HH.out HL.out) (StH.rep st2 HH.out HR.out)).mono ?_;rintro e w3 h3;have h4:=HE.out _ _ _ st2.drop h3;obtain⟨p3,n3,rfl,_⟩:=h3))
  exact h4
 ·rw[if_neg hbt]
  have hbb:(bt==0)=false:=by simp[hbt]
  have HE:=Lib.hid (fun (e:Ending) (w' w1:World) (st1:StH w cb n [] w1) (h:TPost KK bits hb cb n 3 (joinT b t) w1 e w')=>TPost.after (n:=n) (c:=3) (StH.grown st1) (Int.le_refl _) (by omega) h);generalize TPost KK bits hb cb n 3 (joinT b t) w=R at *;go_enter Tryz.func142,Tryz.ntmps142
  go_wp2_with (first
   |(refine zAD st rfl 37 _ rfl (kv k) rfl ?_;intro b8 w1 st1;clear st)
   |((with_reducible refine zBA 37 ?_);refine zAC rfl 37 _ rfl b8 rfl _ zBF rfl _ _ (st1.at (i:=0) rfl) (zAX Hk.out) ?_)
   |(go_at_call 79;refine(HBit.out _).mono ?_;rintro e w2 ⟨rfl,hbel⟩;have st2:=StH.init HH.out (st1.call hbel);clear hbel st1)
   |(go_at_call 168;refine(HJ2.out _ (StH.has st2 HH.out) (StH.hasK st2 HH.out HKK.out) (StH.rep st2 HH.out HR.out) (StH.rep st2 HH.out HL.out)).mono ?_;rintro e w3 h3;have h4:=HE.out _ _ _ st2.drop h3;obtain⟨p3,n3,rfl,_⟩:=h3))
  exact h4
def pairU(k:List Nat)(c:Nat)(a b:Tr):Nat→Tr
 |0=>jo k c a b
 |m+1=>jo k ((c:Nat) - 1 - (m:Nat):Int) (pairU k c a b m) .nil
theorem zIB(x:List Nat)(h:x.length=64)(w:World):(Instr.field 40 (.agg (kv x)) 0).run Tryz.prog w=.ok (.agg (kv (x.take 32))) w:=by
 have e:(Instr.field 40 (.agg (kv x)) 0).run Tryz.prog w=.ok (.agg ((kv x).extract 0 32)) w:=by kernel_rfl
 rw[e,show (32:Nat)=0+32 from rfl,zDY x 0 32 (by omega)];rfl
set_option maxRecDepth 20000 in
theorem Pair_calls(KK:List Int)(k v k' v':List Nat)(p q:Option Addr)(dp:Nat)(hb cb:Nat)(bits n:Int)(w:World)(hh:HasH hb cb bits n w)(hB:0≤bits∧bits≤256)(hn:0≤n∧n≤3999999999999998000)
  (hK:HasK KK w) (hl:RepT KK bits w p (.leaf k v)) (hr:RepT KK bits w q (.leaf k' v')) (hdp:dp≤zEX k k') (hc:zEX k k'<256) :
  Calls Tryz.prog 144 #[.pointer (some ⟨hb,0,none⟩),.pointer p,.pointer q,.int .i64 dp] w (TPost KK bits hb cb n 800 (pairU k (zEX k k') (.leaf k v) (.leaf k' v') (zEX k k' - dp)) w):=by
 have HH:=Lib.hid hh;have HKK:=Lib.hid hK;have HL:=Lib.hid hl;have HR:=Lib.hid hr;have HN:=Lib.hid hn;have hkk:Key k:=by obtain⟨_,_,_,_,_,_,h,_⟩:=hl;exact h
 have hkk':Key k':=by obtain⟨_,_,_,_,_,_,h,_⟩:=hr;exact h
 have HLf:=Lib.hid (fun wx h=>zGF KK bits (.leaf k v) p wx h);have HLf':=Lib.hid (fun wx h=>zGF KK bits (.leaf k' v') q wx h);have Hx:Hid ((zFW KK bits (.leaf k v)).length=64∧(zFW KK bits (.leaf k v)).take 32=k):=⟨zJC HL.out,List.take_left' hkk.len⟩
 have Hx':Hid ((zFW KK bits (.leaf k' v')).length=64∧(zFW KK bits (.leaf k' v')).take 32=k'):=⟨zJC HR.out,List.take_left' hkk'.len⟩
 have Hk:=Lib.hid hkk.len;have HCo:=Lib.hid (fun wx=>Common_calls k k' hkk hkk' wx);have HJ:=Lib.hid (fun t b p q d m wx h1 h2 h3 h4 h5=>PJoin_calls KK t b p q k hkk d hb cb bits m wx h1 hB h2 h3 h4 h5);generalize hT:Tr.leaf k v=T at *;generalize hT':Tr.leaf k' v'=T' at *;generalize zFW KK bits T=X at *;generalize zFW KK bits T'=X' at *;clear hh hK hl hr hB hn hT hT' hkk hkk';generalize zEX k k'=c at *;have HP:=Lib.hid (fun (w':World) (p:Option Addr) (n':Int) (hr:RepT KK bits w' p (pairU k c T T' (c - dp))) (hg:w.grownBy w' (some cb)) (hh:HasH hb cb bits n' w') (a:n≤n') (b:n'≤n+3*(c - dp:Nat)+3)=>(show TPost KK bits hb cb n 800 (pairU k c T T' (c - dp)) w (.returned (.pointer p)) w' from ⟨p,n',rfl,hr,hg,hh,a,by omega⟩));generalize hR:TPost KK bits hb cb n 800 (pairU k c T T' (c - dp)) w=R at *;clear hR;have st:=StH.init HH.out (St.init w);have hf:=fun wx=>zIB X Hx.out.1 wx
 have hf':=fun wx=>zIB X' Hx'.out.1 wx
 rw[Hx.out.2] at hf;rw[Hx'.out.2] at hf';go_enter Tryz.func144,Tryz.ntmps144;go_upto_region 2 with (first
  |(go_at_call 40;refine(HLf.out _ (StH.rep st HH.out HL.out)).mono ?_;rintro e w2 ⟨rfl,hbel⟩;have st2:StH w cb n [] w2:=St.call st hbel;clear hbel st;have hf2:=hf w2)
  |((with_reducible refine zAW 37 ?_);refine zAE st2 rfl 37 rfl _ zEL ?_;intro b9 w3 st3;clear st2)
  |((with_reducible refine zAN 37 ?_);refine zAA st3 rfl 37 _ _ rfl 0 b9 rfl (.agg (kv k)) rfl _ _ rfl (zAX Hk.out) (by show (kv k).size=_;rw[zAF,Hk.out,zAF];rfl) (zBJ _) _ rfl ?_;intro w4 st4;clear st3))
 refine zBH 6 st4 zBL (by kernel_rfl) ?_;intro I hI hI';simp only[List.take_succ_cons,List.take_zero,List.drop_succ_cons,List.drop_zero]
 (refine Inv.wpInv_step (fun K hK=>?_);go_simp;refine zDP 37 _ rfl b9 rfl _ zBF rfl _ _ (fun wx hw=>(hI wx hw).at (i:=0) rfl) (zAX Hk.out) ?_
  refine hK _ ?_;clear hK K)
 iterate 1
  (refine Inv.wpInv_step (fun K hK=>?_);go_simp;apply zAL;· (intro wx hw;go_simp;(try go_ints);(try go_simp);(try (rw[if_pos (by omega)]));(try go_simp);(first | done | rfl))
   refine hK _ ?_;clear hK K)
 (refine Inv.wpInv_step (fun K hK=>?_);go_simp;refine zDF hI hI' 40 _ ?_ (fun wx stx=>HLf'.out wx (StH.rep stx HH.out HR.out)) ?_;· (intro wx hw;go_simp)
  refine hK _ ?_;clear hK K)
 (refine Inv.wpInv_step (fun K hK=>?_);go_simp;apply zAL;· (intro wx hw;have q1:=hf' wx;go_simp;(first | done | rfl))
  refine hK _ ?_;clear hK K)
 (refine Inv.wpInv_step (fun K hK=>?_);go_simp;refine zDF hI hI' 148 _ ?_ (fun wx stx=>HCo.out wx) ?_;· (intro wx hw;go_simp)
  refine hK _ ?_;clear hK K)
 iterate 1
  (refine Inv.wpInv_step (fun K hK=>?_);go_simp;apply zAL;· (intro wx hw;go_simp;(try go_ints);(try go_simp);(try (rw[if_pos (by omega)]));(try go_simp);(first | done | rfl))
   refine hK _ ?_;clear hK K)
 clear hI hI';refine Inv.wpInv_nil ?_;intro w5 st5;clear st4 hf hf';have HJ0:=Lib.hid (fun wx (st:StH w cb n [(b9,kv k,37)] wx)=>HJ.out T T' p q (c:Int) n wx (StH.has st HH.out) (by have:=HN.out;omega) (StH.hasK st HH.out HKK.out) (StH.rep st HH.out HL.out) (StH.rep st HH.out HR.out));go_upto_region 5 with (first
  |((with_reducible refine zBA 37 ?_);refine zAC rfl 37 _ rfl b9 rfl _ zBF rfl _ _ (st5.at (i:=0) rfl) (zAX Hk.out) ?_)
  |(go_at_call 142;refine(HJ0.out _ st5).mono ?_;rintro e w6 ⟨p6,n6,rfl,hr6,hg6,hh6,ha6,hb6⟩;have st6:=StH.sum st5 HH.out hg6 hh6;clear st5 hg6 hh6))
 have hcc:((c:Nat):Int) - 1=(c:Int) - 1:=rfl
 go_loopw [11,12] (fun pv i wr=>∃(m:Nat) (pm:Option Addr) (nm:Int),m≤c - dp∧i=.int .i64 ((c:Nat) - 1 - (m:Nat):Int)∧pv=.pointer pm∧RepT KK bits wr pm (pairU k c T T' m)∧StH w cb nm [(b9,kv k,37)] wr∧n≤nm∧nm≤n+3*(m:Nat)+3) (fun _ i _=>(intOf i+1).toNat)
 case atStart=>exact⟨0,p6,n6,Nat.zero_le _,by simp,rfl,hr6,st6,ha6,by omega⟩
 case round =>
  obtain⟨m,pm,nm,hm,rfl,rfl,hrm,stm,ham,hbm⟩:=hrel;clear st6 hr6 ha6 hb6;have HRm:=Lib.hid hrm;clear hrm
  by_cases hlt:m<c - dp
  ·have h1:((dp:Nat):Int)≤(c:Nat) - 1 - (m:Nat):=by omega
   have HJm:=Lib.hid (HJ.out (pairU k c T T' m) .nil pm none ((c:Nat) - 1 - (m:Nat):Int) nm wr (StH.has stm HH.out) (by have:=HN.out;omega) (StH.hasK stm HH.out HKK.out) HRm.out rfl);have hu:jo k ((c:Nat) - 1 - (m:Nat):Int) (pairU k c T T' m) .nil=pairU k c T T' (m+1):=rfl;rw[hu] at HJm;clear hu
   go_wp2_with (first
    |((with_reducible refine zBA 37 ?_);refine zAC rfl 37 _ rfl b9 rfl _ zBF rfl _ _ (stm.at (i:=0) rfl) (zAX Hk.out) ?_)
    |(go_at_call 142;refine HJm.out.mono ?_;rintro e w7 ⟨p7,n7,rfl,hr7,hg7,hh7,ha7,hb7⟩;have st7:=StH.sum stm HH.out hg7 hh7;clear stm hg7 hh7))
   go_roundw
   case rel=>exact⟨m+1,p7,n7,hlt,by congr 1;omega,rfl,hr7,st7,by omega,by omega⟩
   case measure=>simp[intOf];omega
  ·obtain rfl:m=c - dp:=by omega
   have h1:((c:Nat):Int) - 1 - ((c - dp:Nat):Int)<(dp:Nat):=by omega
   go_wp2;exact HP.out _ _ _ HRm.out (StH.grown stm) (StH.has stm HH.out) ham (by omega)
end
section
set_option maxHeartbeats 2000000
open Go Go.RowKit
attribute [local irreducible] Inv.wpInv Mix.wpUp
attribute [local go_sem] Oper.semAt_some
def RdN(w:World)(a:Option Addr)(m:Nat)(ps:Nat→Option Addr):Prop:=∀i,i<m→∃g off,a=some ⟨g,off,none⟩∧w.cell? ⟨g,off+i,none⟩=some (.pointer (ps i))
section
variable {w w':World} {a:Option Addr} {m:Nat} {ps:Nat→Option Addr}
theorem RdN.call(h:RdN w a m ps)(hb:Below w.heap.size w w'):RdN w' a m ps:=fun i hi=>by
 obtain⟨g,off,e,hc⟩:=h i hi;exact⟨g,off,e,(hb.cell (zAS hc)).trans hc⟩
theorem RdN.turn(h:RdN w a m ps){hb cb:Nat}{bits n:Int}(hh:HasH hb cb bits n w)(hg:w.grownBy w' (some cb)):RdN w' a m ps:=fun i hi=>by
 obtain⟨g,off,e,hc⟩:=h i hi;refine⟨g,off,e,(World.cell?_of_block (w:=w) (hg.block g (zAS hc) ?_)).trans hc⟩;intro e';obtain rfl:g=cb:=Option.some.inj e';have hr:=hh.c;simp only[World.cell?,hr,Option.isSome_none,Bool.false_eq_true,if_false] at hc
 revert hc
 generalize off+i=x;intro hc;rcases x with _ | x<;>simp at hc
theorem row_turnH{b:Nat}{cs:Array Value}{t:TypeId}{fr:Nat×Nat}(h:w.heap[b]?=some (.cells cs t fr))(ht:t≠128){hb cb:Nat}{bits n:Int}(hh:HasH hb cb bits n w)(hg:w.grownBy w' (some cb)):w'.heap[b]?=some (.cells cs t fr) :=
 (hg.block b (zAG h) (fun e=>by
  obtain rfl:b=cb:=Option.some.inj e;have h':=hh.c.symm.trans h;injection h' with h';injection h' with _ h' _;exact ht h'.symm)).trans h
variable {KK:List Int} {bits:Int}
theorem RepT.far(hn:∀(nb:Nat)(cs:Array Value),w.heap[nb]?=some (Obj.cells cs 182 (0,0))→w'.heap[nb]?=some (Obj.cells cs 182 (0,0)))(hrd:∀v l,RdB w v l→RdB w' v l):∀{t:Tr} {p:Option Addr},RepT KK bits w p t→RepT KK bits w' p t
 |.nil,_,h=>h
 |.leaf _ _,_,⟨nb,a,c,hp,hr,hv,h1,h2,h3⟩=>⟨nb,a,c,hp,hn nb _ hr,hrd _ _ hv,h1,h2,h3⟩
 |.inner _ _,_,⟨nb,pl,pr,n,hp,hr,h1,h2⟩=>⟨nb,pl,pr,n,hp,hn nb _ hr,RepT.far hn hrd h1,RepT.far hn hrd h2⟩
theorem RdB.putNC{l:Nat}{o o':Obj}(ho:w.heap[l]?=some o)(hn:o.isCells=false){v:Value}{x:List Nat}(h:RdB w v x):RdB (w.putObj l o') v x:=by
 refine⟨h.1,?_⟩;rcases h.2 with h | ⟨b',off,cap,hv,hcc⟩
 ·exact .inl h
 ·refine .inr ⟨b',off,cap,hv,fun i hi=>?_⟩
  have h1:=hcc i hi;refine(World.cell?_of_block (w:=w) ((grownBy_putObj' w l o').block b' (zAS h1) ?_)).trans h1;intro e;obtain rfl:b'=l:=Option.some.inj e;simp only[World.cell?,ho,Option.isSome_none,Bool.false_eq_true,if_false] at h1
  cases o<;>simp[Obj.isCells] at hn h1
theorem RepT.putNC{l:Nat}{o o':Obj}(ho:w.heap[l]?=some o)(hn:o.isCells=false){t:Tr}{p:Option Addr}(h:RepT KK bits w p t):RepT KK bits (w.putObj l o') p t :=
 RepT.far (fun nb cs hr=>((grownBy_putObj' w l o').block nb (zAG hr) (fun e=>by
  obtain rfl:nb=l:=Option.some.inj e;rw[ho] at hr;injection hr with hr;subst hr;cases hn)).trans hr) (fun _ _ h=>h.putNC ho hn) h
theorem RepT.box{b:Nat}{cs:Array Value}{ty:TypeId}(hrow:w.heap[b]?=some (.cells cs ty (0,0)))(ht:ty≠182)(hcs:∀(i:Nat)(x:Int),cs[i]?≠some (.int .u8 x))(hg:w.grownBy w' (some b)){t:Tr}{p:Option Addr}(h:RepT KK bits w p t):RepT KK bits w' p t :=
 RepT.far (fun nb cs hr=>(hg.block nb (zAG hr) (fun e=>by
  obtain rfl:nb=b:=Option.some.inj e;rw[hrow] at hr;injection hr with hr;injection hr with _ hr _;exact ht hr)).trans hr) (fun _ _ h=>h.row_turn hrow hcs hg) h
end
set_option maxRecDepth 20000 in
theorem BackP_calls(a:Option Addr)(n c:Nat)(w:World) :
  Calls Tryz.prog 141 #[.slice a n c] w fun e w'=>∃Bs,e=.returned (.func (.func 167) #[] #[.pointer (some ⟨Bs,0,none⟩)]) ∧
   St w.heap.size w [(Bs,#[.slice a n c],106)] w':=by
 have st:=St.init w;go_enter Tryz.func141,Tryz.ntmps141
 go_wp2_with (first
  |(refine zCO st rfl 106 _ rfl (.slice a n c) rfl ?_;intro b1 w1 st1;clear st))
 go_ret;exact⟨_,rfl,st1⟩
set_option maxRecDepth 100000 in
theorem backP_in(n l Bs m c:Nat)(a:Option Addr)(ps:Nat→Option Addr)(hm:m≤300)(S:Nat→World→Prop)
  (hcell:∀j W,S j W→W.cell? ⟨Bs,0,none⟩=some (.slice a m c)) (hrow:∀j W,S j W→RdN W a m ps)
  (hY:∀j W,j<m→S j W→YieldAt Fence.wide (n - 1) Tryz.prog l #[.int .i64 ((m - 1 - j:Nat):Int),.pointer (ps (m - 1 - j))] W (fun e W'=>e=.returned (.bool true)∧S (j+1) W'))
  (W:World) (h0:S 0 W) :
  CallsIn Fence.wide n Tryz.prog 167 #[.func (.yield l) #[] #[],.pointer (some ⟨Bs,0,none⟩)] W (fun e W'=>(∃v,e=.returned v)∧S m W'):=by
 have hc:=hcell 0 W h0;refine callsIn_of_wp Tryz.func167 rfl trivial ?_ rfl;simp only[Tryz.ntmps167,List.size_toArray,List.length_cons,List.length_nil,Nat.reduceAdd,Nat.reduceSub,Array.replicate_succ,Array.replicate_zero,List.push_toArray,List.append_toArray,List.nil_append,List.cons_append]
 gi_wp2
 gi_loopw [3] (fun i wr=>∃j:Nat,j≤m∧i=.int .i64 ((m:Nat) - 1 - (j:Nat):Int)∧S j wr) (fun i _=>(intOf i+1).toNat)
 case atStart=>exact⟨0,by omega,by simp,h0⟩
 case round =>
  obtain⟨j,hj,rfl,hS⟩:=hrel;have hcs:=hcell j wr hS
  by_cases hlt:j<m
  ·have h1:(0:Int)≤(m:Nat) - 1 - (j:Nat):=by omega
   have h2:((m:Nat) - 1 - (j:Nat):Int)<(m:Nat):=by omega
   have h3:((m:Nat) - 1 - (j:Nat):Int)=((m - 1 - j:Nat):Int):=by omega
   obtain⟨g,off,ha,hpc⟩:=hrow j wr hS (m - 1 - j) (by omega);subst ha;have hYj:=hY j wr hlt hS;obtain⟨fn,tmps,assign,body,hy,hR⟩:=hYj;generalize ps (m - 1 - j)=dg at *
   gi_wp2
   refine And.intro (fun h=>by simp[Fence.wide] at h) (hR.mono ?_);rintro e W3 ⟨rfl,hS3⟩
   gi_wp2
   refine⟨⟨j+1,by omega,?_,hS3⟩,?_⟩
   ·congr 1;omega
   ·simp only[intOf];omega
  ·obtain rfl:j=m:=by omega
   have h1:((j:Nat) - 1 - (j:Nat):Int)<0:=by omega
   gi_wp2
   go_end0
   exact⟨⟨_,rfl⟩,hS⟩
end
section
set_option maxHeartbeats 4000000
open Go Go.RowKit
attribute [local irreducible] Inv.wpInv Mix.wpUp
attribute [local go_sem] Oper.semAt_some
def upN(k:List Nat)(ts:Nat→Tr)(m:Nat)(t:Tr):Nat→Tr
 |0=>t
 |j+1=>jo k ((m - 1 - j:Nat):Int) (upN k ts m t j) (ts (m - 1 - j))
set_option maxRecDepth 100000 in
theorem Up_calls(KK:List Int)(k:List Nat)(s:Value)(t:Tr)(p:Option Addr)(ts:Nat→Tr)(ps:Nat→Option Addr)(a:Option Addr)(m c b4 b6 b7 b9:Nat)(hb cb:Nat)(bits n:Int)(w:World)(hh:HasH hb cb bits n w)(hB:0≤bits∧bits≤256)(hn:0≤n∧n≤3999999999999990000)
  (hK:HasK KK w) (hk:Key k) (hm:m≤256) (hc9:w.cell? ⟨b9,0,none⟩=some (.slice a m c)) (hr4:w.heap[b4]?=some (.cells #[.pointer (some ⟨hb,0,none⟩)] 29 (0,0))) (hr6:w.heap[b6]?=some (.cells (zAV k s) 52 (0,0)))
  (hr7:w.heap[b7]?=some (.cells #[.int .i64 0] 3 (0,0))) (hps:RdN w a m ps) (hts:∀i,i<m→RepT KK bits w (ps i) (ts i)) (ht:RepT KK bits w p t) :
  Calls Tryz.prog 140 #[.pointer p,.pointer (some ⟨b9,0,none⟩),.pointer (some ⟨b4,0,none⟩),.pointer (some ⟨b6,0,none⟩),.pointer (some ⟨b7,0,none⟩)] w (TPost KK bits hb cb n 1000 (upN k ts m t m) w):=by
 have HH:=Lib.hid hh;have HKK:=Lib.hid hK;have HN:=Lib.hid hn;have Hp6:=Lib.hid (zDJ k s hk.len);have Hs6:=Lib.hid (zBM k s hk.len);have HR4:=Lib.hid hr4;have HR6:=Lib.hid hr6;have HR7:=Lib.hid hr7;have HPs:=Lib.hid hps;have HTs:=Lib.hid hts;have HT:=Lib.hid ht;have HJ:=Lib.hid (fun t b p q d m wx h1 h2 h3 h4 h5=>PJoin_calls KK t b p q k hk d hb cb bits m wx h1 hB h2 h3 h4 h5);have HP:=Lib.hid (fun (w':World) (p:Option Addr) (n':Int) (hr:RepT KK bits w' p (upN k ts m t m)) (hg:w.grownBy w' (some cb)) (hh:HasH hb cb bits n' w') (a:n≤n') (b:n'≤n+3*(m:Nat))=>(show TPost KK bits hb cb n 1000 (upN k ts m t m) w (.returned (.pointer p)) w' from ⟨p,n',rfl,hr,hg,hh,a,by omega⟩));clear hh hK hn hB hps hts ht hr4 hr6 hr7;generalize hR:TPost KK bits hb cb n 1000 (upN k ts m t m) w=R at *;clear hR;generalize zAV k s=ec at *;have h9:=zAS hc9;have st:=St.init w;refine(callsIn_wide (n:=3)).1 ?_;refine callsIn_of_wp_marks Tryz.func140 rfl trivial ?_ rfl
 simp only[Tryz.ntmps140,List.size_toArray,List.length_cons,List.length_nil,Nat.reduceAdd,Nat.reduceSub,Array.replicate_succ,Array.replicate_zero,List.push_toArray,List.append_toArray,List.nil_append,List.cons_append];refine wpIn_wide.2 ?_
 go_wp2_with (first
  |(refine zCO st rfl 59 _ rfl (.pointer p) rfl ?_;intro b5 w3 st3;clear st;have hc9':=(st3.below.cell h9).trans hc9)
  |(go_at_call 141;refine(BackP_calls a m c _).mono ?_;rintro e w4 ⟨Bs,rfl,stw⟩))
 have st5:St w.heap.size w ((Bs,#[.slice a m c],106)::(b5,#[.pointer p],59)::[]) w4:=st3.join stw;clear st3 stw;have hwS:=st5.size;refine wpIn_wide.1 (zFV (F:=Fence.wide) (n:=3) rfl (by omega) (gf:=167) (lb:=#[.pointer (some ⟨Bs,0,none⟩)]) rfl trivial (enters_of Tryz.func167 (by kernel_rfl) rfl) ?_);intro rd1 bs1 W1 hW1 hY1;have hbelW1:Below w4.heap.size w4 W1:=by rw[hW1];exact((Below.refl _ w4).alloc (Nat.le_refl _) _).alloc (by simp) _
 have hrec1:W1.heap[w4.heap.size+1]?=some (.loop rd1):=by
  rw[hW1];have:=World.alloc_heap_new (w4.alloc (.deferred (some []))) (.loop rd1);rwa [World.size_alloc] at this
 have hdef1:W1.heap[w4.heap.size]?=some (.deferred (some [])):=by
  rw[hW1];exact(Below.heap_alloc _ _ _ (by simp)).trans (World.alloc_heap_new w4 _)
 have st6:=StH.init HH.out (St.call st5 hbelW1);clear st5 hbelW1 hW1;obtain⟨S,hS⟩:∃S:Nat→World→Prop,∀j W,S j W↔∃pj nj,StH w cb nj [(Bs,#[.slice a m c],106),(b5,#[.pointer pj],59)] W∧RepT KK bits W pj (upN k ts m t j)∧W.heap[w4.heap.size+1]?=some (.loop rd1)∧W.heap[w4.heap.size]?=some (.deferred (some []))∧n≤nj∧nj≤n+3*(j:Nat):=⟨_,fun _ _=>Iff.rfl⟩
 have HS:=Lib.hid hS;clear hS;have hS0:S 0 W1:=(HS.out 0 W1).2 ⟨p,n,st6,StH.rep st6 HH.out HT.out,hrec1,hdef1,by omega,by omega⟩;clear st6 hrec1 hdef1;have hYi:∀j W,j<m→S j W→YieldAt Fence.wide (2 - 1) Tryz.prog (w4.heap.size+1) #[.int .i64 ((m - 1 - j:Nat):Int),.pointer (ps (m - 1 - j))] W (fun e W'=>e=.returned (.bool true)∧S (j+1) W'):=by
  intro j W hj hSW;obtain⟨pj,nj,stW,hrj,hrec,hdef,h1,h2⟩:=(HS.out j W).1 hSW;have HRj:=Lib.hid hrj;clear hSW hrj hS0;refine hY1 #[.int .i64 ((m - 1 - j:Nat):Int),.pointer (ps (m - 1 - j))] W _ rfl hrec ?_;refine wpIn_seq ?_;refine zEJ (fun h=>by obtain⟨_,_,h⟩:=h;exact h.elim) (by decide) ?_;go_simp;go_wp2;refine zEJ (fun h=>by obtain⟨_,_,h⟩:=h;exact h.elim) (by decide) ?_;go_simp;go_wp2;refine⟨hrec,?_⟩;have stc:=stW.putNC (o':=.loop bs1) (by omega) hrec rfl;have HRc:=Lib.hid (HRj.out.putNC (o':=.loop bs1) hrec rfl);have hrecc:(W.putObj (w4.heap.size+1) (.loop bs1)).heap[w4.heap.size+1]?=some (.loop bs1):=World.putObj_heap_same (zAG hrec);have hdefc:=(World.putObj_heap_other (w:=W) (o:=.loop bs1) (by omega:w4.heap.size≠w4.heap.size+1)).trans hdef;generalize W.putObj (w4.heap.size+1) (.loop bs1)=wc at *;clear hrec hdef stW HRj;refine wpIn_block ?_;refine zEJ (fun h=>by obtain⟨_,_,h⟩:=h;exact absurd h.1 (by simp)) (by decide) ?_;have hr4:=row_turnH HR4.out (by decide) HH.out (StH.grown stc);have hr6:=row_turnH HR6.out (by decide) HH.out (StH.grown stc);have hr7:=row_turnH HR7.out (by decide) HH.out (StH.grown stc)
  have hc4:wc.cell? ⟨b4,0,none⟩=some (.pointer (some ⟨hb,0,none⟩)):=by simp[World.cell?,hr4]
  have hc7:wc.cell? ⟨b7,0,none⟩=some (.int .i64 0):=by simp[World.cell?,hr7]
  have hc5:wc.cell? ⟨b5,0,none⟩=some (.pointer pj):=stc.cell (i:=1) rfl 0;clear hr4 hr7;have h256:((m - 1 - j:Nat):Int)≤256:=by omega
  have HJj:=Lib.hid (HJ.out (upN k ts m t j) (ts (m - 1 - j)) pj (ps (m - 1 - j)) ((m - 1 - j:Nat):Int) nj wc (StH.has stc HH.out) (by have:=HN.out;omega) (StH.hasK stc HH.out HKK.out) HRc.out (StH.rep stc HH.out (HTs.out _ (by omega))));have hu:jo k ((m - 1 - j:Nat):Int) (upN k ts m t j) (ts (m - 1 - j))=upN k ts m t (j+1):=rfl;rw[hu] at HJj;clear hu;have hsz:w.heap.size≤wc.heap.size:=stc.size;generalize ps (m - 1 - j)=pd at *;generalize m - 1 - j=d at *
  go_wp2_with (first
   |((with_reducible refine zBA 37 ?_);refine zAP rfl 37 _ rfl b6 0 32 rfl zBN _ _ _ hr6 zBC (by rw[Hs6.out];decide) _ Hp6.out ?_)
   |(go_at_call 142;refine HJj.out.mono ?_;rintro e w7 ⟨p7,n7,rfl,hr7,hg7,hh7,ha7,hb7⟩;have st7:=StH.sum stc HH.out hg7 hh7;have hk7:KeepNC (w4.heap.size+2) wc w7:=KeepNC.grown hg7 (fun b' e=>by cases e;exact .inr ⟨_,_,_,(StH.has stc HH.out).c⟩);clear stc hg7 hh7)
   |((with_reducible refine zAN 59 ?_);(refine zBD st7 rfl 59 _ _ rfl 1 b5 0 rfl (.pointer p7) rfl _ _ rfl zFU rfl Nat.one_pos rfl _ rfl _ rfl ?_;intro w8 st8 hg8;have hk8:KeepNC (w4.heap.size+2) w7 w8:=KeepNC.row st7 (i:=1) rfl hg8;have hr8:=RepT.box (st7.at (i:=1) rfl) (by decide) (fun i x=>by rcases i with _ | i<;>simp) hg8 hr7;clear st7 hg8)))
  have hrec8:=(hk7.trans hk8).2 _ _ hrecc rfl (by omega);have hdef8:=(hk7.trans hk8).2 _ _ hdefc rfl (by omega);exact⟨trivial,hrec8,(HS.out (j+1) _).2 ⟨p7,n7,st8.putNC (by omega) hrec8 rfl,hr8.putNC hrec8 rfl,World.putObj_heap_same (zAG hrec8),(World.putObj_heap_other (by omega)).trans hdef8,by omega,by omega⟩⟩
 refine(backP_in 2 (w4.heap.size+1) Bs m c a ps (by omega) S (fun j W h=>by
  obtain⟨pj,nj,stW,_⟩:=(HS.out j W).1 h;exact stW.cell (i:=0) rfl 0) (fun j W h=>by
  obtain⟨pj,nj,stW,_⟩:=(HS.out j W).1 h;exact HPs.out.turn HH.out (StH.grown stW)) hYi W1 hS0).mono ?_
 rintro e W' ⟨⟨ve,rfl⟩,hSd⟩;obtain⟨pj,nj,stW,hrj,hrec,hdef,h1,h2⟩:=(HS.out m W').1 hSd;clear hYi hS0 hY1 hSd;refine⟨⟨_,rfl⟩,hrec,fun o=>?_⟩;have stO:=stW.putNC (o':=.loop o) (by omega) hrec rfl;have hrO:=hrj.putNC (o':=.loop o) hrec rfl;have hdO:=(World.putObj_heap_other (w:=W') (o:=.loop o) (by omega:w4.heap.size≠w4.heap.size+1)).trans hdef;generalize W'.putObj (w4.heap.size+1) (.loop o)=Wo at *;clear hrec hdef stW hrj;have hc5:Wo.cell? ⟨b5,0,none⟩=some (.pointer pj):=stO.cell (i:=1) rfl 0;have HRO:=Lib.hid hrO;clear hrO;go_wp2;have stE:=stO.putDef (by omega) hdO;refine retM w4.heap.size rfl hdO ⟨rfl,.pointer pj,results_tmp (fn:=Tryz.f140) rfl _ _ _,HP.out _ _ _ (HRO.out.putNC hdO rfl) (StH.grown stE) (StH.has stE HH.out) h1 h2⟩
end
end Go.Proofs.YtlcngapphloafaaGreatDoor
