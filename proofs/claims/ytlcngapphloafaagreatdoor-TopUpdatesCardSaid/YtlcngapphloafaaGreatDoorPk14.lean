/- Parts of the proof that are used by the claim: Siblings, Tree1. No condition is added here. -/
import Derived.Test.YtlcngapphloafaaGreatDoorPk13
namespace Go.Proofs.YtlcngapphloafaaGreatDoor
section
set_option maxHeartbeats 4000000
open Go Go.RowKit
attribute [local go_sem] Oper.semAt_some
theorem zeroSN:(Tryz.prog.info? 106).bind (·.zero)=some (.slice none 0 0):=by kernel_rfl
set_option maxRecDepth 100000 in
theorem Siblings_calls(p:Option Addr)(k:List Nat)(hk:k.length=32)(kk:Int)(hkk:kk≠2)(w:World)
  (hKind:∀wx,Below w.heap.size w wx→Calls Tryz.prog 39 #[.pointer p] wx fun e w'=>e=.returned (.int .i64 kk)∧w'=wx) :
  Calls Tryz.prog 41 #[.pointer p,.agg (kv k)] w fun e w'=>e=.returned (.slice none 0 0)∧Below w.heap.size w w':=by
 have HK:=Lib.hid hKind;have Hk:=Lib.hid hk;clear hKind hk;have st:=St.init w;refine(callsIn_wide (n:=3)).1 ?_;refine callsIn_of_wp_marks Tryz.func41 rfl trivial ?_ rfl;simp only[Tryz.ntmps41,List.size_toArray,List.length_cons,List.length_nil,Nat.reduceAdd,Nat.reduceSub,Array.replicate_succ,Array.replicate_zero,List.push_toArray,List.append_toArray,List.nil_append,List.cons_append];refine wpIn_wide.2 ?_
 go_wp2_with (first
  |(refine zAD st rfl 37 _ rfl _ rfl ?_;intro b3 w1 st1;clear st)
  |(refine zCS st1 rfl 106 rfl _ zeroSN ?_;intro b5 w3 st3;clear st1)
  |(refine zAC rfl 37 _ rfl b3 rfl _ zBF rfl _ _ (st3.at (i:=1) rfl) (zAX Hk.out) ?_)
  |(go_at_call 76;refine(way_calls p k _).mono ?_;rintro e w4 ⟨Bn,Bk,rfl,stw⟩))
 have st5:St w.heap.size w ((Bk,kv k,37)::(Bn,#[.pointer p],59)::(b5,#[.slice none 0 0],106)::(b3,kv k,37)::[]) w4:=st3.join stw;clear st3 stw;have hb5:b5<w4.heap.size:=zAG (st5.at (i:=2) rfl);have hBn:Bn<w4.heap.size:=zAG (st5.at (i:=1) rfl);have hcn:w4.cell? ⟨Bn,0,none⟩=some (.pointer p):=st5.cell (i:=1) rfl 0;have hbase:=st5.size;have hbel5:=st5.below;refine wpIn_wide.1 (wpIn_rangeFunc_ownG (F:=Fence.wide) (n:=3) rfl (by omega) (gf:=122) (lb:=#[.pointer (some ⟨Bn,0,none⟩),.pointer (some ⟨Bk,0,none⟩)]) rfl trivial (enters_of Tryz.func122 (by kernel_rfl) rfl)
  (way_stops 2 (by omega) Bn Bk p kk hkk (fun wx=>Below w.heap.size w wx∧wx.cell? ⟨Bn,0,none⟩=some (.pointer p)) (fun _ h=>h.2) (fun wx h=>HK.out wx h.1) (fun A B=>(Below w.heap.size w A∧A.cell? ⟨Bn,0,none⟩=some (.pointer p))→Below w.heap.size w B∧B.cell? ⟨Bn,0,none⟩=some (.pointer p)) (fun _ _ h g=>h g) w4
   (fun W hW=>⟨hbel5.trans (hW.mono hbase),(hW.cell hBn).trans hcn⟩))
  (fun h k g=>k (h g)) (fun W x o o' hx _ _ _ g=>⟨g.1.grown (grownBy_putObj' W x o') (Nat.le_trans (Nat.le_refl _) g.1.size) (fun j e=>by cases e;omega),(World.cell?_of_block (World.putObj_heap_other (by show Bn≠x;omega))).trans g.2⟩) (Below.refl _ _) (fun _=>rfl)
  (fun pre W=>St w.heap.size w ((Bk,kv k,37)::(Bn,#[.pointer p],59)::(b5,#[.slice none 0 0],106)::(b3,kv k,37)::[]) W)
  (fun _ _ _=>False) (St.ownFrom _ hbase) (fun _ _ _ _ _ h _ _=>h) st5
  (fun _=>{tmps:=#[.pointer p,.agg (kv k),undef,.pointer (some ⟨b3,0,none⟩),.slice none 0 0,.pointer (some ⟨b5,0,none⟩),.int .i64 0,.pointer p,.pointer p,.agg (kv k),.func (.func 122) #[] #[.pointer (some ⟨Bn,0,none⟩),.pointer (some ⟨Bk,0,none⟩)],.int .i64 0,.pointer p,undef,undef,undef,undef,undef,undef,undef,undef,undef,undef,undef,undef,undef],defers:=[]}) ?assign ?body ?done ?stop)
 case assign =>
  intro l' x W K' hK'
  gi_wp2
  exact hK'
 case stop =>
  rintro D c pre W _ _ h _;exact h.elim
 case body =>
  rintro l' pre x W st _
  gi_wp2_with (first
   |(refine And.intro trivial ?_;gi_at_call 39;refine(CallsIn.inRound l' (callsIn_wide.2 (HK.out _ st.below))).mono ?_;rintro e w6 ⟨rfl,rfl⟩)
   |(gi_at_call 39;refine(CallsIn.inRound l' (callsIn_wide.2 (HK.out _ st.below))).mono ?_;rintro e w6 ⟨rfl,rfl⟩))
  exact⟨KeepsFrom.refl _ _,fun g=>g,st⟩
 case done =>
  rintro D xs W hD rfl st hKd;have hc5:=st.cell (i:=2) rfl 0;go_wp2;have st7:=st.putDef (by omega) hKd;refine retM D rfl hKd ⟨rfl,.slice none 0 0,?_,rfl,st7.below⟩;exact results_tmp (fn:=Tryz.f41) rfl _ _ _
end
section
open Go Go.RowKit
theorem TNew_calls(bits:Int)(hB:0≤bits∧bits≤256)(w:World) :
  Calls Tryz.prog 24 #[.int .i64 bits] w fun e w'=>∃tb hb cb,e=.returned (.tuple #[.pointer (some ⟨tb,0,none⟩),.int .i64 0])∧w.heap.size≤tb∧w.heap.size≤hb∧w.heap.size≤cb∧tb≠cb ∧
   w'.heap[tb]?=some (.cells #[.pointer (some ⟨hb,0,none⟩),.pointer none] 111 (0,0))∧HasH hb cb bits 0 w'∧Below w.heap.size w w':=by
 have HN:=Lib.hid (DNew_calls bits hB w);go_enter Tryz.func24,Tryz.ntmps24
 go_wp2_with (first
  |(go_at_call 26;refine HN.out.mono ?_;rintro e w1 ⟨hb,cb,rfl,h1,h2,hh,hbel⟩))
 go_ret2;have st:=(St.init w1).new #[.pointer (some ⟨hb,0,none⟩),.pointer none] 111;have hcb:=zAG hh.c;exact⟨_,hb,cb,rfl,hbel.size,h1,h2,Nat.ne_of_gt hcb,st.at (i:=0) rfl,hh.call st.below,hbel.trans (st.below.mono hbel.size)⟩
theorem failOK_calls(op:Value)(at':Value)(w:World):Calls Tryz.prog 88 #[op,at',.int .i64 0] w fun e w'=>e=.returned .nilIface∧w'=w:=by
 go_enter Tryz.func88,Tryz.ntmps88;go_wp2;go_ret;exact⟨rfl,rfl⟩
end
end Go.Proofs.YtlcngapphloafaaGreatDoor
