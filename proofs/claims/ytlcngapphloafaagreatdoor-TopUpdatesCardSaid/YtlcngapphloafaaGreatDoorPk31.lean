/- Parts of the proof that are used by the claim: UOpen, FewL. No condition is added here. -/
import Derived.Test.YtlcngapphloafaaGreatDoorPk30
import Derived.Test.YtlcngapphloafaaGreatDoorPk23
import Derived.Deep.Slices
namespace Go.Proofs.YtlcngapphloafaaGreatDoor
section
open Go Go.ChangeShapes Go.WideShapes Go.ChangeAt Go.RowKit
structure OpV where
 kind:Int
 ka:Option Addr
 kn:Nat
 kc:Nat
 va:Option Addr
 vn:Nat
 vc:Nat
 ba:Option Addr
 bn:Nat
 bc:Nat
def opc(o:OpV):List Value:=[.int .i64 o.kind,.slice o.ka o.kn o.kc,.slice o.va o.vn o.vc,.slice o.ba o.bn o.bc]
abbrev RdO(w:World)(v:Value)(os:List OpV):Prop:=RdG 4 opc w v os
def BtOf(w:World)(v:Value)(l:List Nat):Prop:=RdB w v l∧(∀x∈l,x<256)∧∃a c,v=.slice a l.length c
def UpOk(w:World)(bt:Value→List Nat)(u:Upd):Prop:=BtOf w (.slice u.ka u.kn u.kc) (bt (.slice u.ka u.kn u.kc))∧BtOf w (.slice u.va u.vn u.vc) (bt (.slice u.va u.vn u.vc))
def UpsOk(w:World)(bt:Value→List Nat)(v:Value)(us:List Upd):Prop:=RdU w v us∧∀u∈us,UpOk w bt u
structure OpOk (w:World)(bt:Value→List Nat)(ut:Value→List Upd)(o:OpV):Prop where
 k:BtOf w (.slice o.ka o.kn o.kc) (bt (.slice o.ka o.kn o.kc))
 v:BtOf w (.slice o.va o.vn o.vc) (bt (.slice o.va o.vn o.vc))
 b:o.bn≤1000→UpsOk w bt (.slice o.ba o.bn o.bc) (ut (.slice o.ba o.bn o.bc))
 i : -9223372036854775808≤o.kind∧o.kind≤9223372036854775807
open Classical in
noncomputable def zGH(w:World)(v:Value):List Nat:=if h:∃l,BtOf w v l then h.choose else []
theorem bytesIn_of{w:World}{v:Value}{l:List Nat}(h:BtOf w v l):BtOf w v (zGH w v):=by
 have h':∃l,BtOf w v l:=⟨l,h⟩
 unfold zGH;rw[dif_pos h'];exact h'.choose_spec
open Classical in
noncomputable def upsIn(w:World)(v:Value):List Upd:=if h:∃us,UpsOk w (zGH w) v us then h.choose else []
theorem upsIn_of{w:World}{v:Value}{us:List Upd}(h:UpsOk w (zGH w) v us):UpsOk w (zGH w) v (upsIn w v):=by
 have h':∃l,UpsOk w (zGH w) v l:=⟨us,h⟩
 unfold upsIn;rw[dif_pos h'];exact h'.choose_spec
theorem open_bt{H:Type}{enc:TypeId×Value→H}{W:World}{n:Nat}{v:Value}{y:DataW H×List MemPlace}(hf:DataW.trod enc Tryz.prog W 0 (fun _=>true) true n 22 [v]=some y) :
  ∃a l c,v=.slice a l c∧BtOf W v (zGH W v):=by
 obtain⟨a,l,c,rfl,hr,hb⟩:=open_bytes hf;exact⟨a,l.length,c,rfl,bytesIn_of ⟨hr.1,hb,a,c,rfl⟩⟩
theorem cell8:Tryz.prog.cellsOf 22=1:=by kernel_rfl
theorem cellI:Tryz.prog.cellsOf 3=1:=by kernel_rfl
theorem cellB:Tryz.prog.cellsOf 4=1:=by kernel_rfl
theorem cellU:Tryz.prog.cellsOf 97=1:=by kernel_rfl
theorem cellK:Tryz.prog.cellsOf 37=32:=by kernel_rfl
theorem cellY:Tryz.prog.cellsOf 5=1:=by kernel_rfl
theorem cellE:Tryz.prog.cellsOf 52=33:=by kernel_rfl
theorem wf_i64{n:Int}(h:(Lit.int .i64 n).wf=true) : -9223372036854775808≤n∧n≤9223372036854775807:=by
 have:=bounds_i64 h;omega
theorem zGB{H:Type}{enc:TypeId×Value→H}{W:World}{m:Nat}{fs:Array Field}{cs:List Value}{xs:List (DataW H×List MemPlace)}(hall:∀(i:Nat)(f:Field),fs[i]?=some f→DataW.trod enc Tryz.prog W 0 (fun _=>true) true m f.type ((cs.drop f.offset).take (Tryz.prog.cellsOf f.type))=xs[i]?)
  (i:Nat) (ty off n:Nat) (h:(fs[i]?).map (fun f=>(f.type,f.offset))=some (ty,off)) (hc:Tryz.prog.cellsOf ty=n):DataW.trod enc Tryz.prog W 0 (fun _=>true) true m ty ((cs.drop off).take n)=xs[i]?:=by
 cases hf:fs[i]? with
 |none=>rw[hf] at h;cases h
 |some f =>
  simp only[hf,Option.map_some,Option.some.injEq,Prod.mk.injEq] at h;obtain⟨rfl,rfl⟩:=h;subst hc;exact hall i f hf
theorem open_structs{H:Type}{enc:TypeId×Value→H}{W:World}{t e:TypeId}(α:Type)(sz:Nat)(f:α→List Value)(G:α→Prop)(ht:Tryz.prog.underlying t=some (.slice e))(hc:Tryz.prog.cellsOf e=sz)(hsz:0<sz)
  (hel:∀n cs y,cs.length=sz→DataW.trod enc Tryz.prog W 0 (fun _=>true) true n e cs=some y→∃x,f x=cs∧G x)
  {n:Nat} {v:Value} {y:DataW H×List MemPlace} (hf:DataW.trod enc Tryz.prog W 0 (fun _=>true) true n t [v]=some y) :
  ∃a len c,v=.slice a len c∧len≤c∧c≤maxLen∧(len≤1000→∃l,RdG sz f W v l∧∀x∈l,G x):=by
 rcases Go.Deep.open_slice ht hf with ⟨h0,_⟩ | ⟨a,len,cap,m,n',D,Pl,hcs,_,hl,hm,hmm,_,hx⟩
 ·obtain rfl:v=.slice none 0 0:=by simpa using h0
  exact⟨none,0,0,rfl,Nat.le_refl _,by decide,fun _=>⟨[],RdG.nil W,fun _ h=>(List.not_mem_nil h).elim⟩⟩
 ·obtain rfl:v=.slice (some a) len cap:=by simpa using hcs
  refine⟨some a,len,cap,rfl,hl,hm,fun h1000=>?_⟩;have hlm:len≤m:=by rw[hmm];split<;>omega
  have hsp:0<len→a.spot=none:=fun h0=>by
   obtain⟨cs',h1,h2⟩:=hx 0 (by omega);rw[hc] at h1;obtain⟨_,hlen,hcell⟩:=World.cells?_some h1;have h3:=hcell 0 hsz;rw[List.getElem?_eq_getElem (show 0<cs'.length by omega)] at h3;have h4:=World.cell?_spot h3;rw[Nat.zero_mul] at h4;obtain⟨b,off,spot⟩:=a
   revert h4
   cases spot<;>simp[Addr.add]
  have each:∀i,i<len→∃x:α,G x∧(f x).length=sz∧∃b off,a=⟨b,off,none⟩∧CellsAt W b (off+i*sz) (f x):=by
   intro i hi;obtain⟨cs',h1,h2⟩:=hx i (by omega);rw[hc] at h1;obtain⟨_,hlen,hcell⟩:=World.cells?_some h1;obtain⟨x,rfl,hG⟩:=hel n' cs' _ hlen h2;refine⟨x,hG,hlen,?_⟩;obtain⟨b,off,spot⟩:=a;have hspot:spot=none:=hsp (by omega);subst hspot;refine⟨b,off,rfl,fun j u hj=>?_⟩;have hj':j<sz:=by
    have:=(List.getElem?_eq_some_iff.1 hj).1;omega
   have h3:=hcell j (by omega);rw[addPlain,addPlain] at h3;rw[h3];exact hj
  have hsel:∃g:Nat→Option α,∀i,i<len→∃x,g i=some x∧G x∧(f x).length=sz∧∃b off,a=⟨b,off,none⟩∧CellsAt W b (off+i*sz) (f x):=by
   classical
   refine⟨fun i=>if h:i<len then some (each i h).choose else none,fun i hi=>⟨(each i hi).choose,by simp[hi],(each i hi).choose_spec⟩⟩
  obtain⟨g,hg⟩:=hsel;have hlist:∀k,k≤len→∃l:List α,l.length=k∧∀i (hi:i<l.length),g i=some l[i]:=by
   intro k
   induction k with
   |zero=>exact fun _=>⟨[],rfl,fun i hi=>absurd hi (Nat.not_lt_zero _)⟩
   |succ k ih =>
    intro hk;obtain⟨l,hll,hli⟩:=ih (by omega);obtain⟨x,hx,_⟩:=hg k (by omega);refine⟨l++[x],by simp[hll],fun i hi=>?_⟩
    by_cases h:i<l.length
    ·rw[List.getElem_append_left h]
     exact hli i h
    ·have hi':i=l.length:=by simp at hi;omega
     subst hi';have e:(l++[x])[l.length]'hi=x:=by simp
     rw[e,hll];exact hx
  obtain⟨l,hll,hli⟩:=hlist len (Nat.le_refl _);have hmem:∀x∈l,G x∧(f x).length=sz:=fun x hx=>by
   obtain⟨i,hi,rfl⟩:=List.getElem_of_mem hx;obtain⟨x,h1,h2,h3,_⟩:=hg i (by omega);rw[hli i hi] at h1;obtain rfl:=Option.some.inj h1;exact⟨h2,h3⟩
  refine⟨l,⟨fun x hx=>(hmem x hx).2,by omega,some a,cap,by rw[hll],by omega,fun hne=>?_⟩,fun x hx=>(hmem x hx).1⟩;have hpos:0<len:=by
   rcases Nat.eq_zero_or_pos len with h | h
   ·exact absurd (List.eq_nil_of_length_eq_zero (hll.trans h)) hne
   ·exact h
  obtain⟨_,_,_,_,b,off,rfl,_⟩:=hg 0 hpos;refine⟨b,off,rfl,fun i hi=>?_⟩;obtain⟨x,h1,_,_,b',off',he,hC⟩:=hg i (by omega);rw[hli i hi] at h1;obtain rfl:=Option.some.inj h1;injection he with e1 e2;subst e1 e2;exact hC
set_option maxRecDepth 100000 in
theorem open_upds{H:Type}{enc:TypeId×Value→H}{W:World}{n:Nat}{v:Value}{y:DataW H×List MemPlace}(hf:DataW.trod enc Tryz.prog W 0 (fun _=>true) true n 97 [v]=some y) :
  ∃a len c,v=.slice a len c∧(len≤1000→UpsOk W (zGH W) v (upsIn W v)):=by
 obtain⟨a,len,c,rfl,_,_,h⟩:=open_structs (H:=H) (enc:=enc) Upd 3 updc (UpOk W (zGH W)) Tryz.underlying97 (by kernel_rfl) (by decide) (fun n cs y hl hy=>by
  obtain⟨v0,v1,v2,rfl⟩:∃v0 v1 v2,cs=[v0,v1,v2]:=by
   match cs,hl with
   |[v0,v1,v2],_=>exact⟨v0,v1,v2,rfl⟩
  obtain⟨xs,m,_,_,_,hxl,hall⟩:=DataW.trod_struct Tryz.underlying161 hy
  match xs,hxl with
  |[y0,y1,y2],_ =>
   have t0:DataW.trod enc Tryz.prog W 0 (fun _=>true) true m 22 [v0]=some y0:=zGB hall 0 22 0 1 rfl cell8;have t1:DataW.trod enc Tryz.prog W 0 (fun _=>true) true m 22 [v1]=some y1:=zGB hall 1 22 1 1 rfl cell8;have t2:DataW.trod enc Tryz.prog W 0 (fun _=>true) true m 4 [v2]=some y2:=zGB hall 2 4 2 1 rfl cellB;obtain⟨ka,kn,kc,rfl,r0⟩:=open_bt t0;obtain⟨va,vn,vc,rfl,r1⟩:=open_bt t1;obtain⟨b,hb,_⟩:=DataW.trod_bool Tryz.underlying4 t2;obtain rfl:v2=.bool b:=by simpa using hb
   exact⟨⟨ka,kn,kc,va,vn,vc,b⟩,rfl,r0,r1⟩) hf
 refine⟨a,len,c,rfl,fun hl=>?_⟩;obtain⟨l,h1,h2⟩:=h hl;exact upsIn_of ⟨h1,h2⟩
set_option maxRecDepth 100000 in
theorem open_opsT{H:Type}{enc:TypeId×Value→H}{W:World}{base:Nat}{v:Value}{d:DataW H}{p:List MemPlace}(hv:Value.okWide Tryz.prog W .any base 50 v)
  (h:DataW.Trod enc Tryz.prog W 0 (fun _=>true) true 50 v d p) :
  ∃a len c,v=.slice a len c∧(len≤1000→∃os,RdO W v os∧∀o∈os,OpOk W (zGH W) (upsIn W) o):=by
 obtain⟨a,len,cap,rfl⟩:=okWide_slice Tryz.underlying50 hv;obtain⟨fuel,hf⟩:=h;obtain⟨a,len,c,he,_,_,h⟩:=open_structs (H:=H) (enc:=enc) OpV 4 opc (OpOk W (zGH W) (upsIn W)) Tryz.underlying50 (by kernel_rfl) (by decide) (fun n cs y hl hy=>by
  obtain⟨v0,v1,v2,v3,rfl⟩:∃v0 v1 v2 v3,cs=[v0,v1,v2,v3]:=by
   match cs,hl with
   |[v0,v1,v2,v3],_=>exact⟨v0,v1,v2,v3,rfl⟩
  obtain⟨xs,m,_,_,_,hxl,hall⟩:=DataW.trod_struct Tryz.underlying99 hy
  match xs,hxl with
  |[y0,y1,y2,y3],_ =>
   have t0:DataW.trod enc Tryz.prog W 0 (fun _=>true) true m 3 [v0]=some y0:=zGB hall 0 3 0 1 rfl cellI;have t1:DataW.trod enc Tryz.prog W 0 (fun _=>true) true m 22 [v1]=some y1:=zGB hall 1 22 1 1 rfl cell8;have t2:DataW.trod enc Tryz.prog W 0 (fun _=>true) true m 22 [v2]=some y2:=zGB hall 2 22 2 1 rfl cell8;have t3:DataW.trod enc Tryz.prog W 0 (fun _=>true) true m 97 [v3]=some y3:=zGB hall 3 97 3 1 rfl cellU;obtain⟨ka,kn,kc,rfl,r0⟩:=open_bt t1;obtain⟨va,vn,vc,rfl,r1⟩:=open_bt t2;obtain⟨ba,bn,bc,rfl,r2⟩:=open_upds t3;obtain⟨i,hi,_,hw⟩:=DataW.trod_int Tryz.underlying3 t0;obtain rfl:v0=.int .i64 i:=by simpa using hi
   exact⟨⟨i,ka,kn,kc,va,vn,vc,ba,bn,bc⟩,rfl,r0,r1,r2,wf_i64 hw⟩) hf
 exact⟨a,len,c,he,h⟩
theorem open_keyC{H:Type}{enc:TypeId×Value→H}{W:World}{n:Nat}{cs:List Value}{y:DataW H×List MemPlace}(hcs:cs.length=32)(hf:DataW.trod enc Tryz.prog W 0 (fun _=>true) true n 37 cs=some y):∃l,cs=zAJ l∧Key l:=by
 obtain⟨xs,m,_,_,hl,hx,hall⟩:=DataW.trod_array Tryz.underlying37 hf;rw[cellY] at hall;have hone:∀i,i<32→∃n:Int,cs[i]?=some (.int .u8 n)∧0≤n∧n<256:=fun i hi=>by
  have h1:=hall i hi;rw[List.getElem?_eq_getElem (by omega)] at h1;obtain⟨n,hn,_,hw⟩:=DataW.trod_int Tryz.underlying5 h1;rw[Nat.mul_one] at hn;have h2:=congrArg List.head? hn;rw[List.head?_take,if_neg (by decide),List.head?_drop] at h2;exact⟨n,h2,wf_u8_lt hw⟩
 refine⟨(List.range 32).map fun i=>match cs[i]? with | some (Value.int _ n)=>n.toNat | _=>0,?_,?_,?_⟩
 ·apply List.ext_getElem?
  intro i
  by_cases hi:i<32
  ·obtain⟨n,hn,h0,h1⟩:=hone i hi
   rw[hn];unfold zAJ;rw[List.getElem?_map,List.getElem?_map,List.getElem?_range hi];simp only[Option.map_some,hn];rw[Int.toNat_of_nonneg h0]
  ·rw[List.getElem?_eq_none (by omega),List.getElem?_eq_none (by unfold zAJ;simp;omega)]
 ·simp
 ·intro x hx
  obtain⟨i,hi,rfl⟩:=List.mem_map.1 hx;obtain⟨n,hn,h0,h1⟩:=hone i (by simpa using hi);simp only[hn];omega
set_option maxRecDepth 100000 in
theorem open_entry{H:Type}{enc:TypeId×Value→H}{W:World}{base:Nat}{v:Value}{d:DataW H}{p:List MemPlace}(hv:Value.okWide Tryz.prog W .any base 52 v)
  (h:DataW.Trod enc Tryz.prog W 0 (fun _=>true) true 52 v d p) :
  ∃(k:List Nat) (a:Option Addr) (n c:Nat),v=.agg (zFS (k,.slice a n c)).toArray∧Key k∧BtOf W (.slice a n c) (zGH W (.slice a n c)):=by
 obtain⟨cs,rfl,hsz⟩:=okWide_struct Tryz.underlying52 hv;obtain⟨fuel,hf⟩:=h;obtain⟨xs,m,_,_,_,hxl,hall⟩:=DataW.trod_struct Tryz.underlying52 hf;rw[cellE] at hsz
 match xs,hxl with
 |[y0,y1],_ =>
  have t0:DataW.trod enc Tryz.prog W 0 (fun _=>true) true m 37 (cs.toList.take 32)=some y0:=zGB hall 0 37 0 32 rfl cellK;have t1:DataW.trod enc Tryz.prog W 0 (fun _=>true) true m 22 ((cs.toList.drop 32).take 1)=some y1:=zGB hall 1 22 32 1 rfl cell8;have hl:cs.toList.length=33:=hsz;obtain⟨k,hk,hkey⟩:=open_keyC (by rw[List.length_take];omega) t0;obtain⟨u,hu⟩:∃u,cs.toList.drop 32=[u]:=by
   have h1:(cs.toList.drop 32).length=1:=by rw[List.length_drop];omega
   match cs.toList.drop 32,h1 with
   |[u],_=>exact⟨u,rfl⟩
  rw[hu] at t1;obtain⟨a,n,c,rfl,hb⟩:=open_bt t1;refine⟨k,a,n,c,?_,hkey,hb⟩
  congr 1
  have:=List.take_append_drop 32 cs.toList;rw[hk,hu] at this
  show cs=(zAJ k++[Value.slice a n c]).toArray
  rw[this]
end
section
set_option maxHeartbeats 4000000
open Go Go.RowKit
attribute [local irreducible] Inv.wpInv Mix.wpUp
theorem aggOp:∃d,Tryz.prog.underlying 99=some d∧zGJ d=true:=by
 have h:(Tryz.prog.underlying 99).map zGJ=some true:=by kernel_rfl
 cases hq:Tryz.prog.underlying 99 with
 |none=>rw[hq] at h;cases h
 |some d=>rw[hq] at h;exact⟨d,rfl,Option.some.inj h⟩
theorem sizeOp0:(Tryz.prog.info? 99).map (·.size)=some 4:=by kernel_rfl
theorem zeroOp:(Tryz.prog.info? 99).bind (·.zero)=some (.agg #[.int .i64 0,.slice none 0 0,.slice none 0 0,.slice none 0 0]):=by kernel_rfl
theorem op_one(o:OpV):∀x∈(Value.agg (opc o).toArray).cells.toList,x.oneCell'=true:=by
 intro x hx;simp[Value.cells,opc] at hx;rcases hx with rfl | rfl | rfl | rfl<;>rfl
theorem sliceUpd:Tryz.prog.underlying 97=some (.slice 161):=by kernel_rfl
theorem zeroUpd':(Tryz.prog.info? 161).bind (·.zero)=some (.agg #[.slice none 0 0,.slice none 0 0,.bool false]):=by kernel_rfl
theorem sizeUpd':(Tryz.prog.info? 161).map (·.size)=some 3:=by kernel_rfl
theorem builtUpd2(a b:Option Addr)(n m c d:Nat):Tryz.prog.built 161 [(0,.slice a n c),(1,.slice b m d)]=some #[.slice a n c,.slice b m d,.bool false]:=by kernel_rfl
theorem Few13_long(a:Option Addr)(n c:Nat)(h:20<n)(w:World):Calls Tryz.prog 65 #[.slice a n c] w fun e w'=>e=.returned (.bool false)∧Below w.heap.size w w':=by
 have hi:(20:Int)<(n:Nat):=by omega
 go_enter Tryz.func65,Tryz.ntmps65;go_wp2;go_ret;exact⟨rfl,Below.refl _ _⟩
theorem FewL_long(a:Option Addr)(n c:Nat)(h:12<n)(w:World):Calls Tryz.prog 36 #[.slice a n c] w fun e w'=>e=.returned (.int .i64 0)∧Below w.heap.size w w':=by
 have hi:(12:Int)<(n:Nat):=by omega
 go_enter Tryz.func36,Tryz.ntmps36;go_wp2;go_ret;exact⟨rfl,Below.refl _ _⟩
def FewOp(ut:Value→List Upd)(o:OpV):Prop:=o.kn≤100∧o.vn≤70000∧o.bn≤20∧FewU (ut (.slice o.ba o.bn o.bc))
def FewLPost(ut:Value→List Upd)(os:List OpV)(w:World)(e:Ending)(w':World):Prop:=Below w.heap.size w w'∧∃r:Int,e=.returned (.int .i64 r)∧(r=0∨(r=1∧os.length≤12∧∀o∈os,FewOp ut o))
set_option maxRecDepth 20000 in
theorem FewL_calls(bt:Value→List Nat)(ut:Value→List Upd)(os:List OpV)(v:Value)(w:World)(hv:RdO w v os)(h1000:os.length≤1000)(ho:∀o∈os,OpOk w bt ut o):Calls Tryz.prog 36 #[v] w (FewLPost ut os w):=by
 have HP0:Hid (∀w',Below w.heap.size w w'→FewLPost ut os w (.returned (.int .i64 0)) w'):=fun w' h=>⟨h,0,rfl,.inl rfl⟩
 have HP1:Hid (∀w',Below w.heap.size w w'→os.length≤12→(∀o∈os,FewOp ut o)→FewLPost ut os w (.returned (.int .i64 1)) w'):=fun w' h h1 h2=>⟨h,1,rfl,.inr ⟨rfl,h1,h2⟩⟩
 generalize FewLPost ut os w=R at *;have HV:=Lib.hid hv;have HO:=Lib.hid ho;obtain⟨a,c,rfl,_⟩:=hv.form;clear hv ho;have st:=St.init w
 by_cases h12:os.length≤12
 ·have h12i:((os.length:Nat):Int)≤12:=by omega
  go_enter Tryz.func36,Tryz.ntmps36;go_upto_region 4 with (first | (fail "x"))
  go_loopw [10] (fun i wr=>∃j:Nat,j≤os.length∧i=.int .i64 (j:Nat)∧Hid (∀o∈os.take j,FewOp ut o)∧Below w.heap.size w wr) (fun i _=>((os.length:Int) - intOf i).toNat)
  case atStart=>exact⟨0,Nat.zero_le _,rfl,fun u hu=>(List.not_mem_nil hu).elim,Below.refl _ _⟩
  case round =>
   obtain⟨j,hj,rfl,Hs,hbw⟩:=hrel
   by_cases hlt:j<os.length
   ·have hji:((j:Nat):Int)<(os.length:Nat):=by omega
    obtain⟨b,off,c',hva,_,Hat0⟩:=HV.out.at (by intro h;rw[h] at hlt;exact absurd hlt (Nat.not_lt_zero _));obtain⟨rfl,rfl⟩:a=some ⟨b,off,none⟩∧c=c':=by injection hva with h1 h2 h3;exact⟨h1,h3⟩
    have Hat:Hid (CellsAt wr b (off+j*4) (opc os[j])):=Hat0.out wr hbw j hlt;have hok:=HO.out os[j] (List.getElem_mem _);have hsn:FewOp ut os[j]→∀o∈os.take (j+1),FewOp ut o:=fun h o hu=>by
     rw[List.take_add_one,List.getElem?_eq_getElem hlt,Option.toList_some] at hu;rcases List.mem_append.1 hu with hu | hu
     ·exact Hs.out o hu
     ·rw[List.mem_singleton.1 hu];exact h
    generalize os[j]=o at *;have HSn:=Lib.hid hsn;have Hbw:=Lib.hid hbw;have H1:Hid (∀(b':Nat)(wx:World),wx.heap[b']?=some (.cells #[.slice o.ka o.kn o.kc,.slice o.va o.vn o.vc,.bool false] 161 (0,0))→Calls Tryz.prog 65 #[.slice (some ⟨b',0,none⟩) 1 1] wx (FewPost [⟨o.ka,o.kn,o.kc,o.va,o.vn,o.vc,false⟩] wx)):=fun b' wx hr =>
     Few13_calls _ _ wx ⟨fun x hx=>by rw[List.mem_singleton.1 hx];rfl,by simp,some ⟨b',0,none⟩,1,rfl,Nat.le_refl _,fun _=>⟨b',0,rfl,fun i hi=>by
      obtain rfl:i=0:=by simpa using hi
      exact CellsAt.row (n:=3) hr rfl⟩⟩
    have H2:Hid (∀wx,Below w.heap.size w wx→Calls Tryz.prog 65 #[.slice o.ba o.bn o.bc] wx (fun e w'=>∃b,e=.returned (.bool b)∧(b=true→o.bn≤20∧FewU (ut (.slice o.ba o.bn o.bc)))∧Below wx.heap.size wx w')):=fun wx hb=>by
     by_cases h:o.bn≤1000
     ·have hu:=hok.b h
      refine(Few13_calls _ _ wx (hu.1.call hb)).mono fun e w' ⟨b,h1,h2,h3⟩=>⟨b,h1,fun hb=>⟨?_,h2 hb⟩,h3⟩
      obtain⟨_,_,hf,_⟩:=hu.1.form;injection hf with _ hf
      have:=(h2 hb).1;omega
     ·exact(Few13_long _ _ _ (by omega) wx).mono fun e w' ⟨h1,h2⟩=>⟨false,h1,(fun h=>by cases h),h2⟩
    clear hsn hva Hat0 hok hbw Hs HV HO;have st0:=St.init wr
    go_wp2_with (first
     |((with_reducible refine zBA 99 ?_);refine zBR rfl 99 _ rfl b (off+j*4) rfl aggOp (opc o) sizeOp0 Hat.out ?_)
     |((with_reducible refine zAW 99 ?_);refine zAE st0 rfl 99 rfl _ zeroOp ?_;intro bo w1 st1;clear st0)
     |((with_reducible refine zAN 99 ?_);refine zAA st1 rfl 99 _ _ rfl 0 bo rfl (.agg (opc o).toArray) rfl _ _ rfl sizeOp0 rfl (op_one o) [(bo,(opc o).toArray,99)] rfl ?_;intro w2 st2;have c1:w2.cell? ⟨bo,1,none⟩=some (.slice o.ka o.kn o.kc):=st2.cell (i:=0) rfl 1;have c2:w2.cell? ⟨bo,2,none⟩=some (.slice o.va o.vn o.vc):=st2.cell (i:=0) rfl 2;have c3:w2.cell? ⟨bo,3,none⟩=some (.slice o.ba o.bn o.bc):=st2.cell (i:=0) rfl 3;clear st1)
     |((with_reducible refine zEG 161 ?_);refine zAM rfl 161 _ rfl [(0,.slice o.ka o.kn o.kc),(1,.slice o.va o.vn o.vc)] ?_ _ (builtUpd2 _ _ _ _ _ _) ?_;(·(simp[Act.eval];done)))
     |((with_reducible refine zBP 97 ?_);refine zAR st2 rfl 97 1 _ rfl 161 sliceUpd _ 3 zeroUpd' sizeUpd' (by decide) (by decide) [(0,.agg #[.slice o.ka o.kn o.kc,.slice o.va o.vn o.vc,.bool false])] ?_ _ (fillOne 3 rfl) ?_;(·(first | (simp[Act.eval];done) | (simp[Act.eval,Act.put];done) | (exact(rfl:(_:List (Nat×Value))=_))));intro bs w3 st3 hb3;have d3:=(hb3.cell (block_lt_of_cell c3)).trans c3;clear c1 c2 c3 st2)
     |(go_at_call 65;first
       |(refine(H1.out _ _ (st3.at (i:=0) rfl)).mono ?_;rintro e w4 ⟨b4,rfl,hf4,hb4⟩;have st4:=st3.call hb4;have e3:=(hb4.cell (block_lt_of_cell d3)).trans d3;clear st3 hb4 d3)
       |(refine(H2.out _ (Hbw.out.trans (st4.below.mono Hbw.out.size))).mono ?_;rintro e w5 ⟨b5,rfl,hf5,hb5⟩;have st5:=st4.call hb5;clear st4 hb5)))
    case roundEnd =>
     have h4:=(hf4 (by assumption)).2 _ (List.mem_singleton.2 rfl);have h5:=hf5 (by simp_all);refine⟨⟨j+1,hlt,by simp,HSn.out ⟨h4.1,h4.2,h5.1,h5.2⟩,Hbw.out.trans (st5.below.mono Hbw.out.size)⟩,?_⟩;simp only[intOf];omega
    all_goals first
     |exact HP0.out _ (Hbw.out.trans (st4.below.mono Hbw.out.size))
     |exact HP0.out _ (Hbw.out.trans (st5.below.mono Hbw.out.size))
   ·obtain rfl:j=os.length:=by omega
    go_wp2;have h:=Hs.out;rw[List.take_length] at h;exact HP1.out _ hbw h12 h
 ·exact((FewL_long a os.length c (by omega) w).mono fun e w' ⟨h1,h2⟩=>by rw[h1];exact HP0.out _ h2)
end
end Go.Proofs.YtlcngapphloafaaGreatDoor
