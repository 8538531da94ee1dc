/- Parts of the proof that are used by the claim: Cat, Preim, TMix2, TBuilt, LeafOf, Node1, Node2, Node3, Node4, Way, Locate. No condition is added here. -/
import Derived.Test.YtlcngapphloafaaGreatDoorPk12
import Derived.Lib.AppendZeros
namespace Go.Proofs.YtlcngapphloafaaGreatDoor
section
set_option maxHeartbeats 1000000
open Go Go.RowKit
section
variable {P:Program} {ops:Array Oper} {rest:List Oper} {o:Oper} {a:Act} {w w0:World} {Q:Exit→Act→World→Prop} {B:Nat} {L:List (Nat×Array Value×TypeId)}
theorem run_append_empty(w:World)(t ty e:TypeId)(ht:P.underlying t=some (.slice e))(i:TypeInfo)(hi:P.info? e=some i)(base:Option Addr)(sLen sCap:Nat)(hle:sLen≤sCap)(a':Option Addr)(c':Nat) :
  (Builtin.append_ #[t,t] ty #[.slice base sLen sCap,.slice a' 0 c']).run P w=.ok (.slice base sLen sCap) w:=by
 cases base<;>cases a'<;>simp[Builtin.append_,run_underlying ht,sizeOf,typeInfo,hi,hle,Builtin.lenOf,Builtin.firstCells,loadCells,loadCellsFrom,storeCells]
theorem zCE{base:Nat}(st:St B w0 L w)(hL:∀p∈L,p.1<base)(hB:B≤base)(hgd:o.guard=none)(s x:Operand)(t:TypeId)
  (ho:o.op=.call {callee:=.builtin .append,args:=#[s,x],argTypes:=#[t,t]}) (e:TypeId) (z:Value) (bytes:Nat) (ht:P.underlying t=some (.slice e))
  (hz:(P.info? e).bind (·.zero)=some z) (hsize:(P.info? e).map (·.size)=some 1) (hby:(P.info? e).map (·.bytes)=some bytes) (hzs:z.cells.size=1)
  (v:Value) (n:Nat) (xs:List Value) (hs:a.eval s=v) (hown:w.ownsRow base e 1 v n xs)
  (vx:Value) (l:List Nat) (hx:a.eval x=vx) (hrd:RdB w vx l)
  (h63:n+l.length≤maxLen) (hbytes:(n+l.length)*bytes≤140737488355328) (hbase:base≤w.heap.size)
  (h:∀v' w1,St B w0 L w1→w1.ownsRow base e 1 v' (n+l.length) (xs++zAJ l)→base≤w1.heap.size→w.grownBy w1 v.ownBlock→wpList P ops Q rest (a.put o.dst v') w1):wpList P ops Q (o::rest) a w:=by
 cases hq:P.info? e with
 |none=>simp[hq] at hz
 |some i =>
  rcases hrd.2 with ⟨rfl,ad,c,rfl⟩ | ⟨b,off,c,rfl,hc⟩
  ·obtain⟨bs,cap,rfl,hle⟩:∃bs cap,v=.slice bs n cap∧n≤cap:=by
    rcases hown.2 with ⟨rfl,rfl⟩ | ⟨g,cap,cur,rfl,_,_,hle,_⟩
    ·exact⟨none,0,rfl,Nat.le_refl _⟩
    ·exact⟨_,cap,rfl,hle⟩
   refine zCP (by unfold Region.wanted;rw[hgd]) fun K hK=>?_
   have hr:=run_append_empty w t o.type e ht i hq bs n cap hle ad c;unfold Oper.wp;simp[execOp,ho,resolve,invoke,builtin,hs,hx,hr,Result.andThen,Oper.upon];exact hK _ _ (h _ w st (by simpa[zAJ] using hown) hbase (World.grownBy.refl _ _))
  ·refine wpList_append_own w hgd s x t ho base e i z 1 bytes ht hq (by simpa[hq] using hz) (by simpa[hq] using hsize) (by simpa[hq] using hby) hzs (by decide) v n xs hs hown ⟨b,off,none⟩ l.length c (zAJ l) hx (by rw[zAI,Nat.mul_one]) (fun j u hu=>?_) (bcells_one l) h63 hbytes hbase (fun v' w' g1 g2 g3=>?_)
   ·have hadd:(⟨b,off,none⟩:Addr).add j=⟨b,off+j,none⟩:=by unfold Addr.add;split<;>simp_all
    have hj:j<l.length:=by
     have:=(List.getElem?_eq_some_iff.1 hu).1
     rwa [zAI] at this
    rw[hadd,hc j hj,←hu,zHP l j hj]
   ·exact h v' w' (st.grown g2 (fun k hk=>(hown.lt k hk).1) hL hB) g1 (Nat.le_trans hbase g2.size) g2
end
theorem RdB.own{w:World}{base:Nat}{e:TypeId}{v:Value}{l:List Nat}(h:w.ownsRow base e 1 v l.length (zAJ l)):RdB w v l:=by
 rcases h.2 with ⟨rfl,h0⟩ | ⟨g,cap,cur,rfl,_,hg,hle,hcap,hsz,htake⟩
 ·obtain rfl:l=[]:=List.length_eq_zero_iff.1 h0
  exact RdB.nil w
 ·refine⟨Nat.le_trans hle hcap,.inr ⟨g,0,cap,rfl,fun i hi=>?_⟩⟩
  have h1:=zHP l i hi;rw[←htake,List.getElem?_take,if_pos (by omega)] at h1;simp only[World.cell?,hg,Option.isSome_none,Bool.false_eq_true,if_false,Nat.zero_add];rw[←Array.getElem?_toList];exact h1
theorem infoU8:∃i:TypeInfo,Tryz.prog.info? 5=some i∧i.zero=some (.int .u8 0)∧i.size=1∧i.bytes=1:=by
 have h1:=zDU;have h2:=zCN;have h3:=zFD
 cases hq:Tryz.prog.info? 5 with
 |none=>rw[hq] at h1;cases h1
 |some i =>
  rw[hq] at h1 h2 h3;exact⟨i,rfl,h1,Option.some.inj h2,Option.some.inj h3⟩
theorem intI64:Tryz.prog.underlying 3=some (.int .i64):=by kernel_rfl
theorem run_grow_nil(n:Nat)(hpos:0<n)(hn:n≤1099511627776)(w:World)(ty:TypeId) :
  ∃cap,n≤cap∧cap≤maxLen∧(Builtin.append_ #[22,3] ty #[.slice none 0 0,.int .i64 n]).run Tryz.prog w =
   .ok (.slice (some ⟨w.heap.size,0,none⟩) n cap) (w.drew.alloc (.cells (Builtin.zeroCells #[.int .u8 0] n++Builtin.zeroCells #[.int .u8 0] (cap - n)) 5)):=by
 obtain⟨i,hi,hz,hs,hb⟩:=infoU8;have h:=Lib.run_append_nil_zeros w 22 3 ty 5 i (.int .u8 0) .i64 .i64 zCC intI64 hi hz n hpos (by omega) (by omega) (by rw[hb];omega);exact⟨_,grownCap_ge w n 0 _,grownCap_le_maxLen w n 0 _ (by unfold maxLen;omega),h⟩
theorem Grow_calls(n:Nat)(hn:n≤1099511627776)(w:World) :
  Calls Tryz.prog 93 #[.slice none 0 0,.int .i64 n] w fun e w'=>∃v,e=.returned v∧w'.ownsRow w.heap.size 5 1 v 0 []∧w.heap.size≤w'.heap.size∧Below w.heap.size w w':=by
 have st:=St.init w;rcases Nat.eq_zero_or_pos n with rfl | hpos
 ·go_enter Tryz.func93,Tryz.ntmps93
  go_wp2;go_ret;exact⟨_,rfl,World.ownsRow_nil _ _ _ _,Nat.le_refl _,Below.refl _ _⟩
 ·have hn0:¬((n:Int)<0):=by omega
  have hn1:(0:Int)<(n:Int):=by omega
  have HR:=Lib.hid (run_grow_nil n hpos hn w);go_enter Tryz.func93,Tryz.ntmps93
  go_wp2_with (first
   |(at_builtin;obtain⟨cap,hc1,hc2,hr⟩:=HR.out _;refine Lib.wpList_append_run _ rfl _ _ _ _ rfl _ _ rfl rfl _ _ hr ?_;clear hr))
  go_ret;have hbw:=((Below.refl w.heap.size w).drew.alloc (Nat.le_refl _) (.cells (Builtin.zeroCells #[.int .u8 0] n++Builtin.zeroCells #[.int .u8 0] (cap - n)) 5))
  refine⟨_,rfl,?_,hbw.size,hbw⟩;refine World.ownsRow_made (e:=5) (size:=1) w.drew _ cap (Nat.le_refl _) hc2 ?_;simp[Builtin.zeroCells];omega
def catL(ps:List (Value×List Nat)):List Nat:=(ps.map (·.2)).flatten
theorem catL_snoc(ps:List (Value×List Nat))(k:Nat)(h:k<ps.length):catL (ps.take (k+1))=catL (ps.take k)++ps[k].2:=by
 rw[List.take_succ_eq_append_getElem h];unfold catL;rw[List.map_append,List.flatten_append];simp only[List.map_cons,List.map_nil,List.flatten_cons,List.flatten_nil,List.append_nil]
theorem catL_le(ps:List (Value×List Nat))(k:Nat):(catL (ps.take k)).length≤(catL ps).length:=by
 conv=>rhs;rw[←List.take_append_drop k ps]
 unfold catL;rw[List.map_append,List.flatten_append,List.length_append];omega
def RdP(w:World)(v:Value)(ps:List (Value×List Nat)):Prop :=
 (catL ps).length≤1099511627776∧ps.length≤1000∧(∀p∈ps,RdB w p.1 p.2) ∧
 ((ps=[]∧v=.slice none 0 0)∨∃b t,v=.slice (some ⟨b,0,none⟩) ps.length ps.length∧w.heap[b]?=some (.cells (ps.map (·.1)).toArray t (0,0)))
theorem RdP.open{w:World}{v:Value}{ps:List (Value×List Nat)}(h:RdP w v ps):∃a,v=.slice a ps.length ps.length ∧
  Hid (∀k (hk:k<ps.length),∃b,a=some ⟨b,0,none⟩∧∀w':World,Below w.heap.size w w'→w'.cell? ⟨b,k,none⟩=some ps[k].1):=by
 rcases h.2.2.2 with ⟨rfl,rfl⟩ | ⟨b,t,rfl,hb⟩
 ·exact⟨none,rfl,fun k hk=>absurd hk (by simp)⟩
 ·refine⟨_,rfl,fun k hk=>⟨b,rfl,fun w' hb'=>?_⟩⟩
  rw[hb'.cell (zAG hb)];simp[World.cell?,hb,hk]
theorem Concat_calls(ps:List (Value×List Nat))(vp:Value)(w:World)(h:RdP w vp ps) :
  Calls Tryz.prog 56 #[vp] w fun e w'=>∃v,e=.returned v∧w'.ownsRow w.heap.size 5 1 v (catL ps).length (zAJ (catL ps))∧Below w.heap.size w w':=by
 obtain⟨a,rfl,Hc⟩:=h.open;obtain⟨hl,hpl,hrd,_⟩:=h;have HR:=Lib.hid hrd;clear hrd;go_enter Tryz.func56,Tryz.ntmps56;go_wp2
 go_loop [3,11] (fun s i=>∃k:Int,0≤k∧k≤(ps.length:Int)∧i=.int .i64 k∧s=.int .i64 ((catL (ps.take k.toNat)).length:Nat)) (fun _ i=>((ps.length:Int) - intOf i).toNat)
 case atStart=>exact⟨0,by omega,by omega,rfl,rfl⟩
 case round =>
  obtain⟨k,k0,k1,rfl,rfl⟩:=hrel
  by_cases hlt:k<(ps.length:Int)
  ·have hk:k.toNat<ps.length:=by omega
   obtain⟨b,rfl,hcell⟩:=Hc.out k.toNat hk;have hc:=hcell w (Below.refl _ _);obtain⟨a2,cap2,hv,_⟩:=(HR.out _ (List.getElem_mem hk)).open;rw[hv] at hc;have hsn:((catL (ps.take (k+1).toNat)).length:Int)=(catL (ps.take k.toNat)).length+ps[k.toNat].2.length:=by
    rw[show (k+1).toNat=k.toNat+1 by omega,catL_snoc ps _ hk,List.length_append];omega
   have hsl:=catL_le ps (k+1).toNat;have hsl0:=catL_le ps k.toNat;clear hcell hv;generalize ps[k.toNat].2.length=N at *;generalize hX:(catL (ps.take (k+1).toNat)).length=X at *;generalize (catL (ps.take k.toNat)).length=Y at *;go_wp2;go_roundw
   case rel=>exact⟨k+1,by omega,by omega,rfl,congrArg (Value.int .i64) (by rw[hX];omega)⟩
   case measure=>simp[intOf];omega
  ·have e:ps.take k.toNat=ps:=List.take_of_length_le (by omega)
   rw[e];clear e;have st:=St.init w
   go_wp2_with (first
    |(go_at_call 93;refine(Grow_calls _ hl _).mono ?_;rintro e w1 ⟨v1,rfl,hown,hsz,hbel⟩;have st1:=st.call hbel;clear hbel st))
   go_loopw [6,27] (fun v i wr=>∃k:Int,0≤k∧k≤(ps.length:Int)∧i=.int .i64 k∧wr.ownsRow w.heap.size 5 1 v (catL (ps.take k.toNat)).length (zAJ (catL (ps.take k.toNat)))∧St w.heap.size w [] wr) (fun _ i _=>((ps.length:Int) - intOf i).toNat)
   case atStart=>exact⟨0,by omega,by omega,rfl,hown,st1⟩
   case round =>
    obtain⟨k,k0,k1,rfl,hown2,st2⟩:=hrel;clear st1 hown
    by_cases hlt:k<(ps.length:Int)
    ·have hk:k.toNat<ps.length:=by omega
     obtain⟨b,rfl,hcell⟩:=Hc.out k.toNat hk;have hc:=hcell wr st2.below;have HRk:=Lib.hid ((HR.out _ (List.getElem_mem hk)).call st2.below);have Hstep:Hid (∀(W:World)(v':Value),W.ownsRow w.heap.size 5 1 v' ((catL (ps.take k.toNat)).length+ps[k.toNat].2.length) (zAJ (catL (ps.take k.toNat))++zAJ ps[k.toNat].2)→W.ownsRow w.heap.size 5 1 v' (catL (ps.take (k+1).toNat)).length (zAJ (catL (ps.take (k+1).toNat)))):=by
      intro W v' h;rw[show (k+1).toNat=k.toNat+1 by omega,catL_snoc ps _ hk,List.length_append,zCB];exact h
     have hsl:(catL (ps.take k.toNat)).length+ps[k.toNat].2.length≤1099511627776:=by
      have h1:=catL_le ps (k.toNat+1);rw[catL_snoc ps _ hk,List.length_append] at h1;omega
     clear hcell;obtain⟨vk,hvk⟩:∃vk,vk=ps[k.toNat].1:=⟨_,rfl⟩
     rw[←hvk] at hc HRk;clear hvk
     go_wp2_with (first
      |(at_builtin;(refine zCE (base:=w.heap.size) st2 (by simp) (Nat.le_refl _) rfl _ _ 22 rfl 5 (.int .u8 0) 1 zCC zDU zCN zFD rfl _ _ _ rfl hown2 vk _ rfl HRk.out (by unfold maxLen;omega) (by omega) st2.size ?_;intro v3 w3 st3 hown3 hb3 _;clear st2 hown2)))
     go_roundw
     case rel=>exact⟨k+1,by omega,by omega,rfl,Hstep.out _ _ hown3,st3⟩
     case measure=>simp[intOf];omega
    ·have e:ps.take k.toNat=ps:=List.take_of_length_le (by omega)
     rw[e] at hown2;clear e;go_wp2;go_ret;exact⟨_,rfl,hown2,st2.below⟩
theorem fillB(k:Int):Instr.fill (fun i=>some (i*1,1)) ((Array.range (1*1)).map ((Value.int .u8 0).cells[·%(Value.int .u8 0).cells.size]!)) [(0,.int .u8 k)]=some #[.int .u8 k]:=by kernel_rfl
theorem ownsRow_one{w:World}{base b:Nat}{e:TypeId}{x:Value}(hb:base≤b)(h:w.heap[b]?=some (.cells #[x] e (0,0))):w.ownsRow base e 1 (.slice (some ⟨b,0,none⟩) 1 1) 1 [x] :=
 ⟨rfl,.inr ⟨b,1,#[x],rfl,hb,h,Nat.le_refl _,by decide,rfl,rfl⟩⟩
theorem build_calls(k:Nat)(ps:List (Value×List Nat))(vp:Value)(w:World)(h:RdP w vp ps) :
  Calls Tryz.prog 127 #[.int .u8 k,vp] w fun e w'=>∃v,e=.returned v∧RdB w' v (k::catL ps)∧Below w.heap.size w w':=by
 have hl:=h.1;have HP:Hid (∀wx,Below w.heap.size w wx→RdP wx vp ps):=fun wx hb=>by
  refine⟨h.1,h.2.1,fun p hp=>(h.2.2.1 p hp).call hb,?_⟩;rcases h.2.2.2 with h | ⟨b,t,hv,hb2⟩
  ·exact .inl h
  ·exact .inr ⟨b,t,hv,by rw[hb.block b (zAG hb2)];exact hb2⟩
 clear h;have st:=St.init w;go_enter Tryz.func127,Tryz.ntmps127
 go_wp2_with (first
  |(refine zAR st rfl 22 1 _ rfl 5 zCC _ 1 zDU zCN (by decide) (by decide) [(0,.int .u8 k)] ?_ _ (fillB k) ?_;(·(simp[Act.eval];done));intro b1 w1 st1 hb1;clear st)
  |(go_at_call 56;refine(Concat_calls ps vp _ (HP.out _ st1.below)).mono ?_;rintro e w2 ⟨v2,rfl,hown,hbel⟩;have st2:=st1.call hbel;have hrd:=RdB.own hown;clear hbel hown)
  |(at_builtin;(refine zCE (base:=w.heap.size) st2.drop (by simp) (Nat.le_refl _) rfl _ _ 22 rfl 5 (.int .u8 0) 1 zCC zDU zCN zFD rfl (.slice (some ⟨b1,0,none⟩) 1 1) 1 [.int .u8 k] rfl (ownsRow_one (st2.above (i:=0) rfl) (st2.at (i:=0) rfl)) v2 _ rfl hrd (by unfold maxLen;omega) (by omega) st2.size ?_;intro v3 w3 st3 hown3 hb3 _;clear st2 st1)))
 go_ret;refine⟨_,rfl,RdB.own (base:=w.heap.size) (e:=5) ?_,st3.below⟩;rw[List.length_cons,Nat.add_comm];exact hown3
theorem zeroSl:(Tryz.prog.info? 22).bind (·.zero)=some (.slice none 0 0):=by kernel_rfl
theorem sizeSl:(Tryz.prog.info? 22).map (·.size)=some 1:=by kernel_rfl
theorem sliceSl:Tryz.prog.underlying 205=some (.slice 22):=by kernel_rfl
theorem fillP1(a:Option Addr)(n c:Nat):Instr.fill (fun i=>some (i*1,1)) ((Array.range (1*1)).map ((Value.slice none 0 0).cells[·%(Value.slice none 0 0).cells.size]!)) [(0,.slice a n c)]=some #[.slice a n c]:=by kernel_rfl
theorem fillP2(a:Option Addr)(n c:Nat)(a':Option Addr)(n' c':Nat):Instr.fill (fun i=>some (i*1,1)) ((Array.range (2*1)).map ((Value.slice none 0 0).cells[·%(Value.slice none 0 0).cells.size]!)) [(0,.slice a n c),(1,.slice a' n' c')]=some #[.slice a n c,.slice a' n' c']:=by kernel_rfl
theorem RdP.nil(w:World):RdP w (.slice none 0 0) []:=⟨by decide,by decide,by simp,.inl ⟨rfl,rfl⟩⟩
theorem Empty_calls(w:World):Calls Tryz.prog 83 #[] w fun e w'=>∃v,e=.returned v∧RdB w' v [3]∧Below w.heap.size w w':=by
 have HB:=Lib.hid (build_calls 3 [] (.slice none 0 0) w (RdP.nil w));go_enter Tryz.func83,Tryz.ntmps83
 go_wp2_with (first | (go_at_call 127;refine HB.out.mono ?_;rintro e w1 ⟨v1,rfl,hv1,hbel⟩))
 go_ret;exact⟨_,rfl,hv1,hbel⟩
theorem Value_calls(l:List Nat)(v:Value)(w:World)(hl:l.length≤1099511627776)(hv:RdB w v l) :
  Calls Tryz.prog 145 #[v] w fun e w'=>∃v',e=.returned v'∧RdB w' v' (2::l)∧Below w.heap.size w w':=by
 obtain⟨a,cap,rfl,_⟩:=hv.open;have HV:=Lib.hid hv;clear hv;have st:=St.init w;go_enter Tryz.func145,Tryz.ntmps145
 go_wp2_with (first
  |(refine zAR st rfl 205 1 _ rfl 22 sliceSl _ 1 zeroSl sizeSl (by decide) (by decide) [(0,.slice a l.length cap)] ?_ _ (fillP1 _ _ _) ?_;(·(simp[Act.eval];done));intro b1 w1 st1 hb1;clear st)
  |(go_at_call 127
    refine(build_calls 2 [(.slice a l.length cap,l)] _ _ ⟨by simpa[catL] using hl,by simp,fun p hp=>by simp at hp;subst hp;exact HV.out.call hb1,.inr ⟨b1,_,rfl,st1.at (i:=0) rfl⟩⟩).mono ?_;rintro e w2 ⟨v2,rfl,hrd,hbel⟩;have st2:=st1.call hbel;clear hbel st1))
 go_ret;exact⟨_,rfl,by simpa[catL] using hrd,st2.below⟩
end
section
set_option maxHeartbeats 1000000
open Go Go.RowKit
theorem RdB.part{w:World}{b:Nat}{l:List Nat}{t:TypeId}{fr:Nat×Nat}(h:w.heap[b]?=some (.cells (kv l) t fr))(off n cap:Nat)(hn:off+n≤l.length)(hm:n≤maxLen):RdB w (.slice (some ⟨b,off,none⟩) n cap) ((l.drop off).take n):=by
 have hlen:((l.drop off).take n).length=n:=by simp;omega
 refine⟨by rw[hlen];exact hm,.inr ⟨b,off,cap,by rw[hlen],fun i hi=>?_⟩⟩;rw[hlen] at hi;simp only[World.cell?,h,Option.isSome_none,Bool.false_eq_true,if_false];rw[zFX l _ (by omega)];simp[List.getD_eq_getElem?_getD,hi,List.getElem?_drop]
theorem Leaf_calls(k v:List Nat)(hk:k.length=32)(hv:v.length=32)(w:World) :
  Calls Tryz.prog 165 #[.agg (kv (k++v))] w fun e w'=>∃v',e=.returned v'∧RdB w' v' (0::(k++v))∧Below w.heap.size w w':=by
 have st:=St.init w;go_enter Tryz.func165,Tryz.ntmps165
 go_wp2_with (first
  |(refine zAD st rfl 40 _ rfl _ rfl ?_;intro b1 w1 st1;clear st))
 refine zBH 4 st1 zBL (by kernel_rfl) ?_;intro I hI hI';simp only[List.take_succ_cons,List.take_zero,List.drop_succ_cons,List.drop_zero]
 iterate 4
  (refine Inv.wpInv_step (fun K hK=>?_);go_simp;apply zAL;· (intro wx hw;go_simp;(try go_ints);(try go_simp);(try (rw[if_pos (by omega)]));(try go_simp);(first | done | rfl))
   refine hK _ ?_;clear hK K)
 clear hI hI';refine Inv.wpInv_nil ?_;intro w2 st2;clear st1
 go_wp2_with (first
  |(refine zAR st2 rfl 205 2 _ rfl 22 sliceSl _ 1 zeroSl sizeSl (by decide) (by decide) [(0,.slice (some ⟨b1,0,none⟩) 32 32),(1,.slice (some ⟨b1,32,none⟩) 32 32)] ?_ _ (fillP2 _ _ _ _ _ _) ?_;(·(simp[Act.eval];done));intro b3 w3 st3 hb3;clear st2)
  |(go_at_call 127
    refine(build_calls 0 [(.slice (some ⟨b1,0,none⟩) 32 32,k),(.slice (some ⟨b1,32,none⟩) 32 32,v)] _ _ ⟨by simp[catL,hk,hv],by simp,fun p hp=>?pieces,.inr ⟨b3,_,rfl,st3.at (i:=0) rfl⟩⟩).mono ?_
    case pieces =>
     simp at hp;rcases hp with rfl | rfl
     ·have h:=RdB.part (st3.at (i:=1) rfl) 0 32 32 (by simp[hk,hv]) (by decide)
      rw[List.drop_zero,List.take_left' hk] at h;exact h
     ·have h:=RdB.part (st3.at (i:=1) rfl) 32 32 32 (by simp[hk,hv]) (by decide)
      rw[List.drop_left' hk,List.take_of_length_le (by omega)] at h;exact h
    rintro e w4 ⟨v4,rfl,hrd,hbel⟩;have st4:=st3.call hbel;clear hbel st3))
 go_ret;exact⟨_,rfl,by simpa[catL] using hrd,st4.below⟩
theorem Node_calls(k v:List Nat)(hk:k.length=32)(hv:v.length=32)(w:World) :
  Calls Tryz.prog 138 #[.agg (kv k),.agg (kv v)] w fun e w'=>∃v',e=.returned v'∧RdB w' v' (1::(k++v))∧Below w.heap.size w w':=by
 have st:=St.init w;go_enter Tryz.func138,Tryz.ntmps138
 go_wp2_with (first
  |(refine zAD st rfl 38 _ rfl _ rfl ?_;intro b1 w0 st0;clear st)
  |(refine zAD st0 rfl 38 _ rfl _ rfl ?_;intro b2 w1 st1;clear st0))
 refine zBH 2 st1 zBL (by kernel_rfl) ?_;intro I hI hI';simp only[List.take_succ_cons,List.take_zero,List.drop_succ_cons,List.drop_zero]
 iterate 2
  (refine Inv.wpInv_step (fun K hK=>?_);go_simp;apply zAL;· (intro wx hw;go_simp;(try go_ints);(try go_simp);(try (rw[if_pos (by omega)]));(try go_simp);(first | done | rfl))
   refine hK _ ?_;clear hK K)
 clear hI hI';refine Inv.wpInv_nil ?_;intro w2 st2;clear st1
 go_wp2_with (first
  |(refine zAR st2 rfl 205 2 _ rfl 22 sliceSl _ 1 zeroSl sizeSl (by decide) (by decide) [(0,.slice (some ⟨b1,0,none⟩) 32 32),(1,.slice (some ⟨b2,0,none⟩) 32 32)] ?_ _ (fillP2 _ _ _ _ _ _) ?_;(·(simp[Act.eval];done));intro b3 w3 st3 hb3;clear st2)
  |(go_at_call 127
    refine(build_calls 1 [(.slice (some ⟨b1,0,none⟩) 32 32,k),(.slice (some ⟨b2,0,none⟩) 32 32,v)] _ _ ⟨by simp[catL,hk,hv],by simp,fun p hp=>?pieces,.inr ⟨b3,_,rfl,st3.at (i:=0) rfl⟩⟩).mono ?_
    case pieces =>
     simp at hp;rcases hp with rfl | rfl
     ·have h:=RdB.part (st3.at (i:=2) rfl) 0 32 32 (by omega) (by decide)
      rw[List.drop_zero,List.take_of_length_le (by omega)] at h;exact h
     ·have h:=RdB.part (st3.at (i:=1) rfl) 0 32 32 (by omega) (by decide)
      rw[List.drop_zero,List.take_of_length_le (by omega)] at h;exact h
    rintro e w4 ⟨v4,rfl,hrd,hbel⟩;have st4:=st3.call hbel;clear hbel st3))
 go_ret;exact⟨_,rfl,by simpa[catL] using hrd,st4.below⟩
end
section
open Go Go.RowKit
namespace Mix2
open Mix
section
variable {P:Program} {ops:Array Oper} {md:Region.Mode} {J:World→Prop}
def Good(J:World→Prop)(P:Program)(md:Region.Mode)(ops:Array Oper)(n:Nat)(L:(World→Prop)→Array Bool→Act→Prop):Nat→(World→Prop)→Array Bool→Act→Prop
 |0,I,listed,a=>L I listed a
 |f+1,I,listed,a =>
  Region.ready md ops listed≠[]∧∀j∈Region.ready md ops listed,j<n∧∀w,I w →
   mxOp P ops j (fun a' w'=>∃I':World→Prop,Up I'∧I' w'∧(∀w,I' w→J w)∧Good J P md ops n L f I' (listed.setIfInBounds j true) a') a w
theorem wpAny_of_good{n g:Nat}{L:(World→Prop)→Array Bool→Act→Prop}{Q':Exit→Act→World→Prop}(hL:∀I listed a w,I w→L I listed a→wpAny P md ops Q' g listed a w) :
  ∀(f:Nat)(I:World→Prop) (listed:Array Bool) (a:Act) (w:World),I w→Good J P md ops n L f I listed a→wpAny P md ops Q' (f+g) listed a w
 |0,I,listed,a,w,hI,h=>by rw[Nat.zero_add];exact hL _ _ _ _ hI h
 |f+1,I,listed,a,w,hI,h=>by
  rw[show f+1+g=(f+g)+1 by omega];exact⟨fun h0=>absurd h0 h.1,fun i hi=>wpOp_of_mxOp (fun a' w' ⟨I',_,hw',_,h'⟩=>wpAny_of_good hL f I' _ a' w' hw' h') ((h.2 i hi).2 w hI)⟩
theorem good_first{n i:Nat}{oi:Oper}{v:Value}{L:(World→Prop)→Array Bool→Act→Prop}(hi:ops[i]?=some oi)(hsel:∀(j:Nat)(o:Oper) cs b,ops[j]?=some o→o.op≠.select cs b)
  (hlt:∀listed,HeadInv md ops n listed→∀i,i<n→listed.getD i true=false→∀t,n≤t→t∉Region.ready md ops listed) (hin:i<n)
  (hdone:∀I listed a,L I listed a→∀j∈Region.ready md ops listed,n≤j) :
  ∀(f:Nat)(I:World→Prop) (listed:Array Bool) (a:Act),Up I→(∀w,I w→J w)→HeadInv md ops n listed →
   (∀j oj,ops[j]?=some oj→j≠i→listed.getD j true=false→(∀e∈oj.after,Region.binds md e=true→e.on≠i)→oi.apart ops oj=true) →
   i∈Region.ready md ops listed→YieldsU P ops J oi v a →
   Good J P md ops n L f I (listed.setIfInBounds i true) (a.put oi.dst v)→Good J P md ops n L (f+1) I listed a:=by
 intro f
 induction f with
 |zero =>
  intro I listed a hup hIJ inv _ hr hy H;have hun:=(mem_ready.1 hr).1;refine⟨fun h=>(by rw[h] at hr;cases hr),fun j hj=>?_⟩;have hjn:j<n:=by
   rcases Nat.lt_or_ge j n with h | h
   ·exact h
   ·exact absurd hj (hlt listed inv i hin hun j h)
  refine⟨hjn,fun w hw=>?_⟩
  by_cases hji:j=i
  ·subst hji;exact hy.mxOp hi (hIJ w hw) fun w' hb=>⟨I,hup,hup w w' hw hb,hIJ,H⟩
  ·have:=hdone _ _ _ H j (ready_mono hj hji)
   omega
 |succ f ih =>
  intro I listed a hup hIJ inv hfree hr hy H;have hun:=(mem_ready.1 hr).1;refine⟨fun h=>(by rw[h] at hr;cases hr),fun j hj=>?_⟩;have hjn:j<n:=by
   rcases Nat.lt_or_ge j n with h | h
   ·exact h
   ·exact absurd hj (hlt listed inv i hin hun j h)
  refine⟨hjn,fun w hw=>?_⟩
  by_cases hji:j=i
  ·subst hji;exact hy.mxOp hi (hIJ w hw) fun w' hb=>⟨I,hup,hup w w' hw hb,hIJ,H⟩
  ·have h1:=(H.2 j (ready_mono hj hji)).2 w hw
   obtain⟨hjun,oj,hoj,hall⟩:=mem_ready.1 hj;have hnot:∀e∈oj.after,Region.binds md e=true→e.on≠i:=fun e he hb heq=>by
    have h1:=hall e he hb;rw[heq,getD_both hun] at h1
    cases h1
   have h2:=mxOp_put hoj (hfree j oj hoj hji hjun hnot) (fun cs b=>hsel i oi cs b hi) (fun cs b=>hsel j oj cs b hoj) hy h1;have hfree':∀k ok,ops[k]?=some ok→k≠i→(listed.setIfInBounds j true).getD k true=false →
     (∀e∈ok.after,Region.binds md e=true→e.on≠i)→oi.apart ops ok=true:=fun k ok hk hki hun hno=>by
    refine hfree k ok hk hki ?_ hno
    by_cases hjk:j=k
    ·subst hjk;exact hjun
    ·rw[getD_set_ne true hjk] at hun;exact hun
   refine zIA (fun a' w' ⟨h3,I',hup',hw',hsub,h4⟩=>⟨I',hup',hw',hsub,ih I' (listed.setIfInBounds j true) a' hup' hsub (inv.set hj hjn) hfree' (ready_mono hr (Ne.symm hji)) h3 ?_⟩) h2;rw[Array.setIfInBounds_comm _ _ hji];exact h4
structure Form (md:Region.Mode)(ops:Array Oper)(n:Nat)(L:(World→Prop)→Array Bool→Act→Prop):Prop where
 sel:Region.noSelect ops=true
 lt:∀listed,HeadInv md ops n listed→∀i,i<n→listed.getD i true=false→∀t,n≤t→t∉Region.ready md ops listed
 done:∀I listed a,L I listed a→∀j∈Region.ready md ops listed,n≤j
theorem good_batch{n:Nat}{L:(World→Prop)→Array Bool→Act→Prop}(F:Form md ops n L){I:World→Prop}(hup:Up I)(hIJ:∀w,I w→J w){f:Nat}:∀(l:List Nat)(listed:Array Bool) (a:Act),HeadInv md ops n listed→batchB md ops n l listed=true →
  wpUp P ops J (fun a'=>HeadInv md ops n (setAll listed l)→Good J P md ops n L f I (setAll listed l) a') l a→Good J P md ops n L (l.length+f) I listed a
 |[],listed,a,inv,_,h=>by
  rw[List.length_nil,Nat.zero_add];exact h inv
 |i::l,listed,a,inv,hB,h=>by
  simp only[batchB,Bool.and_eq_true,decide_eq_true_eq] at hB;obtain⟨⟨⟨hin,hr⟩,hf⟩,hB'⟩:=hB;have hr':i∈Region.ready md ops listed:=by simpa using hr
  obtain⟨_,oi,hoi,_⟩:=mem_ready.1 hr';have hset:=inv.set hr' hin;simp only[wpUp,hoi] at h;rw[List.length_cons,show l.length+1+f=(l.length+f)+1 by omega]
  by_cases hw:Region.wanted oi (yielded ops a.tmps)=true
  ·rw[if_pos hw] at h
   obtain⟨v,hv,hK⟩:=h;exact good_first hoi (Region.noSelect_spec F.sel) F.lt hin F.done _ I listed a hup hIJ inv (Region.free_spec hoi hf) hr' (.inl ⟨hw,hv⟩) (good_batch F hup hIJ l _ _ hset hB' hK)
  ·rw[if_neg hw] at h
   exact good_first hoi (Region.noSelect_spec F.sel) F.lt hin F.done _ I listed a hup hIJ inv (Region.free_spec hoi hf) hr' (.inr ⟨by simpa using hw,rfl⟩) (good_batch F hup hIJ l _ _ hset hB' h)
theorem good_one{n f i:Nat}{L:(World→Prop)→Array Bool→Act→Prop}{I:World→Prop}{listed:Array Bool}{a:Act}(hr:(decide (Region.ready md ops listed=[i])&&decide (i<n))=true)(inv:HeadInv md ops n listed)
  (h:∀w,I w→mxOp P ops i (fun a' w'=>∃I':World→Prop,Up I'∧I' w'∧(∀w,I' w→J w)∧(HeadInv md ops n (listed.setIfInBounds i true)→Good J P md ops n L f I' (listed.setIfInBounds i true) a')) a w):Good J P md ops n L (f+1) I listed a:=by
 simp only[Bool.and_eq_true,decide_eq_true_eq] at hr;have hm:i∈Region.ready md ops listed:=by rw[hr.1];exact List.mem_cons_self
 refine⟨by rw[hr.1];exact List.cons_ne_nil _ _,fun j hj=>?_⟩;rw[hr.1] at hj;obtain rfl:j=i:=by simpa using hj
 exact⟨hr.2,fun w hw=>zIA (fun a' w' ⟨I',h1,h2,h3,h4⟩=>⟨I',h1,h2,h3,h4 (inv.set hm hr.2)⟩) (h w hw)⟩
theorem good_two{n f i k:Nat}{L:(World→Prop)→Array Bool→Act→Prop}{I:World→Prop}{listed:Array Bool}{a:Act}(hr:(decide (Region.ready md ops listed=[i,k])&&decide (i<n)&&decide (k<n))=true)(inv:HeadInv md ops n listed)
  (h:∀w,I w→mxOp P ops i (fun a' w'=>∃I':World→Prop,Up I'∧I' w'∧(∀w,I' w→J w)∧(HeadInv md ops n (listed.setIfInBounds i true)→Good J P md ops n L f I' (listed.setIfInBounds i true) a')) a w)
  (h':∀w,I w→mxOp P ops k (fun a' w'=>∃I':World→Prop,Up I'∧I' w'∧(∀w,I' w→J w)∧(HeadInv md ops n (listed.setIfInBounds k true)→Good J P md ops n L f I' (listed.setIfInBounds k true) a')) a w):Good J P md ops n L (f+1) I listed a:=by
 simp only[Bool.and_eq_true,decide_eq_true_eq] at hr;have hm:i∈Region.ready md ops listed:=by rw[hr.1.1];exact List.mem_cons_self
 have hm':k∈Region.ready md ops listed:=by rw[hr.1.1];exact List.mem_cons_of_mem _ List.mem_cons_self
 refine⟨by rw[hr.1.1];exact List.cons_ne_nil _ _,fun j hj=>?_⟩;rw[hr.1.1] at hj;rcases List.mem_cons.1 hj with rfl | hj
 ·exact⟨hr.1.2,fun w hw=>zIA (fun a' w' ⟨I',h1,h2,h3,h4⟩=>⟨I',h1,h2,h3,h4 (inv.set hm hr.1.2)⟩) (h w hw)⟩
 ·obtain rfl:j=k:=by simpa using hj
  exact⟨hr.2,fun w hw=>zIA (fun a' w' ⟨I',h1,h2,h3,h4⟩=>⟨I',h1,h2,h3,h4 (inv.set hm' hr.2)⟩) (h' w hw)⟩
def Leaf(P:Program)(ops:Array Oper)(l:List Oper)(n:Nat)(Q:Exit→Act→World→Prop)(I:World→Prop)(listed:Array Bool)(a:Act):Prop :=
 Region.seqB .any ops (ops.size - n) n listed=true∧∀w,I w→wpList P ops Q (l.drop n) a w
theorem wp_region_mix{id:Nat}{Q:Exit→Act→World→Prop}{a:Act}{w:World}{l:List Oper}(n:Nat)(I:World→Prop)(hm:P.follows .mixedOrders=true)(hB:mixB l.toArray n=true)
  (hd:I {w with drawn:=w.drawn+1})
  (h:Form .any l.toArray n (Leaf P l.toArray l n Q)→HeadInv .any l.toArray n (Array.replicate l.toArray.size false)→Good J P .any l.toArray n (Leaf P l.toArray l n Q) n I (Array.replicate l.toArray.size false) a):(Code.region id l.toArray true).wp P Q a w:=by
 simp only[mixB,Bool.and_eq_true,Bool.or_eq_true,decide_eq_true_eq] at hB;obtain⟨hsel,hn⟩:=hB;have hn':n≤l.length:=by
  rcases hn with hn | ⟨⟨hn,_⟩,_⟩
  ·simpa using Nat.le_of_eq hn
  ·have:n<l.length:=by simpa using hn
   omega
 have hdl:(l.drop n).length=l.toArray.size - n:=by simp
 have inv0:HeadInv .any l.toArray n (Array.replicate l.toArray.size false) :=
  ⟨by simp,fun j oj _ hl=>(by rw[getD_replicate_false] at hl;cases hl),fun t _ ht=>getD_in (by simpa using ht) (getD_replicate_false _ _)⟩
 have F:Form .any l.toArray n (Leaf P l.toArray l n Q):=by
  refine⟨hsel,fun listed inv i hi hun t ht hr=>?_,fun I listed a hL=>seqB_ready hL.1⟩;rcases hn with hn | ⟨⟨hn,hs⟩,hc⟩
  ·obtain⟨_,ot,hot,_⟩:=mem_ready.1 hr
   have:=(Array.getElem?_eq_some_iff.1 hot).1;omega
  ·exact tail_waits hs hc hn inv _ i rfl hi hun t ht hr
 refine wp_region_any hm ?_
 have:=wpAny_of_good (Q':=Q) (g:=l.toArray.size - n) (fun I listed a' w' hI hL=>by
  have:=wpAny_of_seq (md:=.any) (Q':=Q) (l.drop n) n listed a' w' (fun j=>by simp[List.getElem?_drop]) (by rw[hdl];exact hL.1) (hL.2 w' hI)
  rwa [hdl] at this) _ _ _ _ _ hd (h F inv0)
 rw[show n+(l.toArray.size - n)=l.toArray.size by omega] at this;exact this
end
end Mix2
end
section
open Go Go.RowKit
theorem fold_set_list(off:Nat):∀(l:List Value)(k:Nat) (cells:Array Value),off+k+l.length≤cells.size →
  (l.zipIdx k).foldl (fun (cs:Array Value) (p:Value×Nat)=>cs.setIfInBounds (off+p.2) p.1) cells=(cells.toList.take (off+k)++(l++cells.toList.drop (off+k+l.length))).toArray
 |[],k,cells,h=>by simp
 |c::l,k,cells,h=>by
  rw[List.length_cons] at h;rw[List.zipIdx_cons,List.foldl_cons,fold_set_list off l (k+1) _ (by simp;omega)]
  congr 1
  rw[Array.toList_setIfInBounds,List.length_cons];have h1:(cells.toList.set (off+k) c).take (off+(k+1))=cells.toList.take (off+k)++[c]:=by
   rw[show off+(k+1)=off+k+1 by omega,List.take_succ_eq_append_getElem (by simp;omega),List.take_set_of_le (Nat.le_refl _)];simp
  have h2:(cells.toList.set (off+k) c).drop (off+(k+1)+l.length)=cells.toList.drop (off+k+(l.length+1)):=by
   rw[List.drop_set_of_lt (by omega)]
   congr 1
   omega
  rw[h1,h2];simp
theorem fold_set(v:Array Value)(off:Nat)(cells:Array Value)(h:off+v.size≤cells.size) :
  v.zipIdx.foldl (fun (cs:Array Value) (p:Value×Nat)=>match p with | (c,j)=>cs.setIfInBounds (off+j) c) cells=(cells.toList.take off++(v.toList++cells.toList.drop (off+v.size))).toArray:=by
 have h1:=fold_set_list off v.toList 0 cells (by simpa using h);rw[←Array.foldl_toList,Array.toList_zipIdx]
 simpa using h1
def consec:Nat→List Value→List (Nat×Nat)
 |_,[]=>[]
 |off,v::vs=>(off,v.cells.size)::consec (off+v.cells.size) vs
def zBB:Nat→List Value→List (Nat×Value)
 |_,[]=>[]
 |i,v::vs=>(i,v)::zBB (i+1) vs
def catV:List Value→List Value
 |[]=>[]
 |v::vs=>v.cells.toList++catV vs
theorem fill_consec(place:Nat→Option (Nat×Nat)):∀(vs:List Value)(i off:Nat) (cells:Array Value) (_:∀j,j<vs.length→place (i+j)=(consec off vs)[j]?) (_:cells.size=off+(catV vs).length),
  Instr.fill place cells (zBB i vs)=some (cells.toList.take off++catV vs).toArray
 |[],i,off,cells,_,hs=>by
  simp only[zBB,Instr.fill,catV,List.append_nil];simp only[catV,List.length_nil,Nat.add_zero] at hs;rw[List.take_of_length_le (by simp[hs])]
 |v::vs,i,off,cells,hp,hs=>by
  have h0:place i=some (off,v.cells.size):=hp 0 (by simp);simp only[catV,List.length_append,Array.length_toList] at hs;simp only[zBB,Instr.fill,h0];rw[if_neg (by simp;omega),fold_set _ _ _ (by omega)];rw[fill_consec place vs (i+1) (off+v.cells.size) _ (fun j hj=>by
   have:=hp (j+1) (by simp;omega);rw[show i+1+j=i+(j+1) by omega,this];simp[consec]) (by simp;omega)]
  have h5:(cells.toList.take off++(v.cells.toList++cells.toList.drop (off+v.cells.size))).toArray.toList.take (off+v.cells.size)=cells.toList.take off++v.cells.toList:=by
   rw[List.toList_toArray,←List.append_assoc];exact List.take_left' (by simp;omega)
  rw[h5,List.append_assoc];rfl
def shapeOf(P:Program)(t:TypeId):Option (Nat×List (Nat×Nat)) :=
 match P.info? t,P.underlying t with
 |some it,some (.struct fields) =>
  match it.zero,fields.toList.mapM (fun f=>(P.info? f.type).map fun i=>(f.offset,i.size)) with
  |some z,some places=>some (z.cells.size,places)
  |_,_=>none
 |_,_=>none
theorem zGW{P:Program}{t:TypeId}{n:Nat}{places:List (Nat×Nat)}(h:shapeOf P t=some (n,places))(vs:List Value)(hp:consec 0 vs=places)(hn:n=(catV vs).length):P.built t (zBB 0 vs)=some (catV vs).toArray:=by
 unfold shapeOf at h;unfold Program.built
 split at h
 ·rename_i it fields h1 h2
  split at h
  ·rename_i z places' h3 h4
   simp only[Option.some.injEq,Prod.mk.injEq] at h;obtain⟨rfl,rfl⟩:=h;simp only[h1,h2,h3,h4];rw[fill_consec _ vs 0 0 z.cells (fun j hj=>by rw[←hp];simp) (by rw[hn];simp)];simp
  ·cases h
 ·cases h
end
section
set_option maxHeartbeats 1000000
open Go Go.RowKit
abbrev StH(w:World)(cb:Nat)(m:Int)(L:List (Nat×Array Value×TypeId))(wx:World):Prop:=St w.heap.size (w.setRow cb #[.int .i64 m]) L wx
section
variable {w wx w2:World} {hb cb:Nat} {bits n m m':Int} {L:List (Nat×Array Value×TypeId)}
theorem StH.init(hh:HasH hb cb bits n w)(st:St w.heap.size w L wx):StH w cb n L wx:=by
 refine st.other (World.grownBy.refl wx _) (zAG hh.c) hh.c ?_;rw[st.below.block cb (zAG hh.c)];exact hh.c
theorem StH.has(st:StH w cb m L wx)(hh:HasH hb cb bits n w):HasH hb cb bits m wx:=by
 refine hh.turn (zCU st.below) ?_;rw[st.below.block cb (zAG hh.c)];exact setRow_heap _ _ _ _ _ _ hh.c
theorem StH.rd(st:StH w cb m L wx)(hh:HasH hb cb bits n w){v:Value}{l:List Nat}(h:RdB w v l):RdB wx v l:=h.turn hh.c (zCU st.below)
theorem StH.hasK(st:StH w cb m L wx)(hh:HasH hb cb bits n w){K:List Int}(h:HasK K w):HasK K wx:=h.turn hh.c (zCU st.below)
theorem StH.grown(st:StH w cb m L wx):w.grownBy wx (some cb):=zCU st.below
theorem StH.sum(st:StH w cb m L wx)(hh:HasH hb cb bits n w)(hg:wx.grownBy w2 (some cb))(h2:HasH hb cb bits m' w2):StH w cb m' L w2:=by
 have hcb:=zAG hh.c;refine⟨⟨hg.os.trans st.below.os,hg.tape.trans st.below.tape,hg.output.trans st.below.output,?_,fun k hk=>?_⟩,Nat.le_trans st.size hg.size,fun p hp=>⟨(st.rows p hp).1,?_⟩,st.nodup⟩
 ·have h:=Nat.le_trans st.below.size hg.size
  simpa using h
 ·by_cases e:k=cb
  ·subst e;rw[h2.c,setRow_heap _ _ _ _ _ _ hh.c]
  ·rw[hg.block k (Nat.lt_of_lt_of_le hk st.size) (fun e'=>e (Option.some.inj e')),st.below.block k hk,setRow_other _ _ _ _ e,setRow_other _ _ _ _ e]
 ·have h:=(st.rows p hp).2
  rw[hg.block p.1 (zAG h) (fun e'=>by have:=Option.some.inj e';have:=(st.rows p hp).1;omega)];exact h
end
theorem zeroLeaf:(Tryz.prog.info? 40).bind (·.zero)=some (.agg (kv (List.replicate 64 0))):=by kernel_rfl
theorem sizeLeaf0:(Tryz.prog.info? 40).map (·.size)=some 64:=by kernel_rfl
theorem zHJ{l:List Nat}(h:l.length=64):(Tryz.prog.info? 40).map (·.size)=some (kv l).size:=by rw[zAF,h];exact sizeLeaf0
theorem aggLeaf:∃d,Tryz.prog.underlying 40=some d∧zGJ d=true:=by
 have h:(Tryz.prog.underlying 40).map zGJ=some true:=by kernel_rfl
 cases hq:Tryz.prog.underlying 40 with
 |none=>rw[hq] at h;cases h
 |some d=>rw[hq] at h;exact⟨d,rfl,Option.some.inj h⟩
theorem shapeLeaf:shapeOf Tryz.prog 40=some (64,[(0,32),(32,32)]):=by kernel_rfl
theorem builtLeaf(k d:List Nat)(hk:k.length=32)(hd:d.length=32):Tryz.prog.built 40 (zBB 0 [.agg (kv k),.agg (kv d)])=some (kv (k++d)):=by
 rw[zGW shapeLeaf [.agg (kv k),.agg (kv d)] (by simp[consec,Value.cells,zAF,hk,hd]) (by simp[catV,Value.cells,zCJ,zAI,hk,hd])];simp[catV,Value.cells,←zBK,zCB]
theorem zBC:(Tryz.prog.info? 37).map (·.size)=some 32:=by kernel_rfl
theorem zeroLeafE:∃z:Array Value,z.size=64∧(Tryz.prog.info? 40).bind (·.zero)=some (.agg z):=⟨_,by simp[zAF],zeroLeaf⟩
set_option maxRecDepth 20000 in
theorem LeafOf_calls(KK:List Int)(k l:List Nat)(v:Value)(hb cb:Nat)(bits n:Int)(w:World)(hh:HasH hb cb bits n w)(hB:0≤bits∧bits≤256)(hn : -4611686018427387904≤n∧n≤4611686018427387904)
  (hk:k.length=32) (hby:∀x∈l,x<256) (hl:l.length≤1099511627770) (hv:RdB w v l) (hK:HasK KK w) :
  Calls Tryz.prog 170 #[.pointer (some ⟨hb,0,none⟩),.agg (kv k),v] w
   fun e w'=>e=.returned (.agg (kv (k++zBE KK bits (2::l))))∧w.grownBy w' (some cb)∧HasH hb cb bits (n+1) w':=by
 have HH:=Lib.hid hh;have HBn:=Lib.hid (And.intro hB hn);have HV:=Lib.hid hv;have HKK:=Lib.hid hK;have HBy:Hid (∀x∈2::l,x<256):=fun x hx=>by
  rcases List.mem_cons.1 hx with rfl | hx
  ·decide
  ·exact hby x hx
 have HD:=Lib.hid (zBG KK bits (2::l)).len;have Hk:=Lib.hid hk;clear hh hB hn hv hK hby hk;have st:=St.init w;obtain⟨z64,hz64,hz0⟩:=zeroLeafE;go_enter Tryz.func170,Tryz.ntmps170
 go_wp2_with (first
  |(refine zAD st rfl 37 _ rfl _ rfl ?_;intro b4 w1 st1;clear st)
  |(refine zAE st1 rfl 40 rfl _ hz0 ?_;intro b6 w2 st2;clear st1))
 have st3:=StH.init HH.out st2;refine Mix2.wp_region_mix (J:=fun wx=>∃m,StH w cb m [(b6,z64,40),(b4,kv k,37)] wx) 5 (StH w cb n [(b6,z64,40),(b4,kv k,37)]) zBL (by kernel_rfl) st3.drew ?_;intro F inv;refine Mix2.good_batch (f:=2) F St.up (fun _ h=>⟨_,h⟩) [0,1,2] _ _ inv (by kernel_rfl) ?_;clear inv st2 st3
 (refine Mix.wpUp_cons rfl (fun K hK=>?_);go_simp;refine zFB 37 _ rfl b4 rfl _ zBF rfl _ _ (fun wx hw=>hw.choose_spec.at (i:=1) rfl) (zAX Hk.out) ?_
  refine hK _ ?_;clear hK K)
 iterate 2
  (refine Mix.wpUp_cons rfl (fun K hK=>?_);go_simp;apply zAU;· (intro wx hw;go_simp;(try go_ints);(try go_simp);(try (rw[if_pos (by omega)]));(try go_simp);(first | done | rfl))
   refine hK _ ?_;clear hK K)
 refine Mix.wpUp_nil ?_;intro inv;refine Mix2.good_one (i:=3) (f:=1) (by kernel_rfl) inv (fun w3 st3=>?_);clear inv;refine zAT rfl rfl 145 #[v] (by go_simp) ?_;refine(Value_calls l v w3 (by omega) (StH.rd st3 HH.out HV.out)).mono ?_;rintro e w4 ⟨v4,rfl,hv4,hbel⟩;refine⟨v4,rfl,fun wx=>StH w cb n [(b6,z64,40),(b4,kv k,37)] wx∧RdB wx v4 (2::l),?_,⟨st3.call hbel,hv4⟩,fun _ h=>⟨_,h.1⟩,fun inv=>?_⟩
 ·exact fun wx wy h hb=>⟨St.call h.1 hb,h.2.call hb⟩
 clear st3 hbel hv4;refine Mix2.good_one (i:=4) (f:=0) (by kernel_rfl) inv (fun w5 st5=>?_);clear inv;obtain⟨st5,hv5⟩:=st5;refine zAT rfl rfl 82 #[.pointer (some ⟨hb,0,none⟩),v4] (by go_simp) ?_;refine(zHQ KK (2::l) v4 hb cb bits n w5 (StH.has st5 HH.out) HBn.out.1 HBn.out.2 HBy.out (by simp;omega) hv5 (StH.hasK st5 HH.out HKK.out)).mono ?_;rintro e w6 ⟨rfl,hg,hh6⟩;refine⟨_,rfl,StH w cb (n+1) [(b6,z64,40),(b4,kv k,37)],St.up,StH.sum st5 HH.out hg hh6,fun _ h=>⟨_,h⟩,fun inv=>?_⟩;clear st5 hv5 hg hh6;clear inv F;refine⟨by kernel_rfl,fun w8 st8=>?_⟩;simp only[List.drop_succ_cons,List.drop_zero,Act.put,List.getElem_toArray,List.getElem_cons_succ,List.getElem_cons_zero,List.setIfInBounds_toArray,List.set_cons_succ,List.set_cons_zero];generalize hD:zBE KK bits (2::l)=D at *
 go_wp2_with (first
  |(refine zAM rfl 40 _ rfl (zBB 0 [.agg (kv k),.agg (kv D)]) ?_ _ (builtLeaf k D Hk.out HD.out) ?_;(·(simp[Act.eval,zBB];done)))
  |(refine zAA st8 rfl 40 _ _ rfl 0 b6 rfl (.agg (kv (k++D))) rfl _ _ rfl (zHJ (by simp[Hk.out,HD.out])) (by show (kv (k++D)).size=_;rw[zAF,hz64];simp[Hk.out,HD.out]) (zBJ _) _ rfl ?_;intro w9 st9;clear st8))
 obtain⟨dL,hdL,hagg⟩:=aggLeaf;exact zBX rfl b6 _ _ _ rfl (st9.at (i:=0) rfl) hdL hagg (zHJ (by simp[Hk.out,HD.out])) rfl ⟨by rw[hD];rfl,StH.grown st9,StH.has st9 HH.out⟩
end
section
set_option maxHeartbeats 1000000
open Go Go.RowKit
section
variable {P:Program} {ops:Array Oper} {rest:List Oper} {o:Oper} {a:Act} {w w0:World} {Q:Exit→Act→World→Prop} {B:Nat} {L:List (Nat×Array Value×TypeId)}
theorem zAP(hgd:Region.wanted o (yielded ops a.tmps)=true)(ty:TypeId)(x:Operand)(ho:o.op=.load ty x)
  (g off n:Nat) (hx:a.eval x=.pointer (some ⟨g,off,none⟩)) (hagg:∃d,P.underlying ty=some d∧zGJ d=true) (cs:Array Value) (t:TypeId) (fr:Nat×Nat)
  (hg:w.heap[g]?=some (.cells cs t fr)) (hi:(P.info? ty).map (·.size)=some n) (hle:off+n≤cs.size) (res:Array Value) (hres:cs.extract off (off+n)=res)
  (h:wpList P ops Q rest (a.put o.dst (.agg res)) w):wpList P ops Q (o::rest) a w:=by
 obtain⟨d,hu,hd⟩:=hagg;subst hres;refine zCP hgd fun K hK=>?_
 unfold Oper.wp execOp;have hl:=zDD (P:=P) w g off n t ty cs fr d hg hu hd hi hle;simp only[ho,hx,Instr.loadAt,Instr.sureAddr,Sem.run_bind,Sem.run_pure,Result.andThen_ok,hl,Oper.upon];exact hK _ _ h
theorem zFM(st:St B w0 L w)(hgd:Region.wanted o (yielded ops a.tmps)=true)(t:TypeId)(ho:o.op=.buildSlice t 0 #[])(e:TypeId)(ht:P.underlying t=some (.slice e))(size:Nat)(hsize:(P.info? e).map (·.size)=some size)
  (h:∀v w1,St B w0 L w1→w1.ownsRow B e size v 0 []→wpList P ops Q rest (a.put o.dst v) w1):wpList P ops Q (o::rest) a w:=by
 refine zCP hgd fun K hK=>?_
 cases hq:P.info? e with
 |none=>simp[hq] at hsize
 |some i =>
  have hf:Instr.fill (fun j=>some (j*i.size,i.size)) (Array.map (fun x=>(#[]:Array Value)[x%(#[]:Array Value).size]!) (Array.range 0)) []=some #[]:=by simp[Instr.fill]
  have hrun:(Instr.buildSlice t 0 #[]).run P w=.ok (.slice (some ⟨w.heap.size,0,none⟩) 0 0) (w.alloc (.cells #[] e)):=by
   simp only[Instr.buildSlice,Sem.run_bind,run_underlying ht,Result.andThen_ok,sizeOf,typeInfo,run_program,hq,Sem.run_pure,Nat.zero_mul,show ¬(0>2^24) by decide,if_false,if_true,hf,newRow,run_newObj];rfl
  unfold Oper.wp execOp;simp only[ho,Array.map_empty,Sem.run_bind,hrun,Result.andThen_ok,Sem.run_pure,Oper.upon];exact hK _ _ (h _ _ (st.new #[] e).drop (World.ownsRow_made w #[] 0 st.size (by decide) (by simp)))
end
def zBI(k vd:List Nat)(s:Value):Array Value:=kv (k++vd)++#[s]
def zED(k vd:List Nat)(s:Value):Value:=.iface 184 (.agg (zBI k vd s))
def zCF(c:Value)(d:List Nat):Array Value:=#[c]++kv d
theorem shapeNodeLeaf:shapeOf Tryz.prog 184=some (65,[(0,64),(64,1)]):=by kernel_rfl
theorem shapeNode:shapeOf Tryz.prog 182=some (33,[(0,1),(1,32)]):=by kernel_rfl
theorem builtNodeLeaf(k vd:List Nat)(a:Option Addr)(n c:Nat)(hk:k.length=32)(hd:vd.length=32):Tryz.prog.built 184 (zBB 0 [.agg (kv (k++vd)),.slice a n c])=some (zBI k vd (.slice a n c)):=by
 rw[zGW shapeNodeLeaf [.agg (kv (k++vd)),.slice a n c] (by simp[consec,Value.cells,zAF,hk,hd]) (by simp[catV,Value.cells,zCJ,zAI,hk,hd])];simp[catV,Value.cells,zBI,←zBK,zCB]
theorem builtNode(t:TypeId)(v:Value)(d:List Nat)(hd:d.length=32):Tryz.prog.built 182 (zBB 0 [.iface t v,.agg (kv d)])=some (zCF (.iface t v) d):=by
 rw[zGW shapeNode [.iface t v,.agg (kv d)] (by simp[consec,Value.cells,zAF,hd]) (by simp[catV,Value.cells,zCJ,zAI,hd])];simp[catV,Value.cells,zCF,←zBK]
theorem zHW(k vd:List Nat)(s:Value)(h:(k++vd).length=64):(zBI k vd s).extract 0 (0+64)=kv (k++vd):=by
 unfold zBI;rw[Nat.zero_add,←h,←zAF,Array.extract_append];simp
theorem leafPreimage_calls(k vd:List Nat)(a:Option Addr)(n c:Nat)(hk:k.length=32)(hv:vd.length=32)(w:World) :
  Calls Tryz.prog 245 #[.agg (zBI k vd (.slice a n c))] w fun e w'=>∃v',e=.returned v'∧RdB w' v' (0::(k++vd))∧Below w.heap.size w w':=by
 have st:=St.init w;have HL:=Lib.hid (fun wx=>Leaf_calls k vd hk hv wx);have HP:=Lib.hid (zHW k vd (.slice a n c) (by simp[hk,hv]));have HS:Hid ((zBI k vd (.slice a n c)).size=65):=by unfold Hid zBI;simp[zAF,hk,hv]
 generalize zBI k vd (.slice a n c)=lc at *;go_enter Tryz.func245,Tryz.ntmps245
 go_wp2_with (first
  |(refine zAD st rfl 184 _ rfl _ rfl ?_;intro b1 w1 st1;clear st)
  |(refine zAP rfl 40 _ rfl b1 0 64 rfl aggLeaf _ _ _ (st1.at (i:=0) rfl) sizeLeaf0 (by rw[HS.out];decide) _ HP.out ?_)
  |(go_at_call 165;refine(HL.out _).mono ?_;rintro e w2 ⟨v2,rfl,hrd,hbel⟩;have st2:=st1.call hbel;clear hbel st1))
 go_ret;exact⟨_,rfl,hrd,st2.below⟩
theorem eqSlN(n c:Nat)(w:World):(Go.binOp .eql 22 (.slice none n c) (.slice none 0 0)).run Tryz.prog w=.ok (.bool true) w:=by kernel_rfl
theorem eqSlS(a:Addr)(n c:Nat)(w:World):(Go.binOp .eql 22 (.slice (some a) n c) (.slice none 0 0)).run Tryz.prog w=.ok (.bool false) w:=by kernel_rfl
theorem methLeafPre(v:Value)(w:World):(Go.method 474 184 v "sparsetree/node.preimage").run Tryz.prog w=.ok (245,v) w:=by kernel_rfl
set_option maxRecDepth 20000 in
theorem CloneB_calls(l:List Nat)(v:Value)(w:World)(hl:l.length≤1099511627776)(hv:RdB w v l) :
  Calls Tryz.prog 171 #[v] w fun e w'=>∃v',e=.returned v'∧RdB w' v' l∧Below w.heap.size w w':=by
 have HV:=Lib.hid hv;obtain⟨a,cap,rfl,_⟩:=hv.open;clear hv;have st:=St.init w
 cases a with
 |none =>
  have h0:l=[]:=by
   rcases HV.out.2 with ⟨h,_⟩ | ⟨b,off,c,h,_⟩
   ·exact h
   ·cases h
  have hq:=eqSlN 0 cap w;go_enter Tryz.func171,Tryz.ntmps171;go_wp2;go_ret;exact⟨_,rfl,by rw[h0];exact RdB.nil w,Below.refl _ _⟩
 |some ad =>
  have hq:=eqSlS ad l.length cap w;go_enter Tryz.func171,Tryz.ntmps171
  go_wp2_with (first
   |(refine zFM st rfl 22 rfl 5 zCC 1 zCN ?_;intro v1 w1 st1 hown1;clear st)
   |(at_builtin;refine zCE (base:=w.heap.size) st1 (by simp) (Nat.le_refl _) rfl _ _ 22 rfl 5 (.int .u8 0) 1 zCC zDU zCN zFD rfl _ _ _ rfl hown1 _ l rfl (HV.out.call st1.below) (by unfold maxLen;omega) (by omega) st1.size ?_;intro v3 w3 st3 hown3 hb3 _;clear st1))
  go_ret;exact⟨_,rfl,RdB.own (base:=w.heap.size) (e:=5) (by simpa using hown3),st3.below⟩
set_option maxRecDepth 20000 in
theorem withLeaf_calls(KK:List Int)(k vd:List Nat)(a:Option Addr)(ln c:Nat)(hb cb:Nat)(bits n:Int)(w:World)(hh:HasH hb cb bits n w)(hB:0≤bits∧bits≤256)(hn : -4611686018427387904≤n∧n≤4611686018427387904)
  (hk:Key k) (hv:Key vd) (hK:HasK KK w) :
  Calls Tryz.prog 169 #[.pointer (some ⟨hb,0,none⟩),zED k vd (.slice a ln c)] w
   fun e w'=>∃nb,e=.returned (.pointer (some ⟨nb,0,none⟩))∧w.heap.size≤nb∧w'.heap[nb]?=some (.cells (zCF (zED k vd (.slice a ln c)) (zBE KK bits (0::(k++vd)))) 182 (0,0))∧w.grownBy w' (some cb)∧HasH hb cb bits (n+1) w':=by
 have HH:=Lib.hid hh;have HBn:=Lib.hid (And.intro hB hn);have HKK:=Lib.hid hK;have HL:=Lib.hid (fun wx=>leafPreimage_calls k vd a ln c hk.len hv.len wx);have HBy:Hid (∀x∈0::(k++vd),x<256):=fun x hx=>by
  rcases List.mem_cons.1 hx with rfl | hx
  ·decide
  ·rcases List.mem_append.1 hx with hx | hx
   ·exact hk.2 x hx
   ·exact hv.2 x hx
 have HLen:Hid ((0::(k++vd)).length≤1099511627776):=by unfold Hid;simp[hk.len,hv.len]
 have HD:=Lib.hid (zBG KK bits (0::(k++vd))).len;have HSum:=fun v2 wx h1 h2 h3=>zHQ KK (0::(k++vd)) v2 hb cb bits n wx h1 HBn.out.1 HBn.out.2 HBy.out HLen.out h2 h3
 have HSum:=Lib.hid HSum;clear hh hB hn hK;have st:=StH.init HH.out (St.init w);unfold zED;generalize zBE KK bits (0::(k++vd))=D at *;generalize hlc:zBI k vd (.slice a ln c)=lc at *;have hm:=methLeafPre (.agg lc) w;go_enter Tryz.func169,Tryz.ntmps169
 go_wp2_with (first
  |(go_at_call 245;refine(HL.out _).mono ?_;rintro e w2 ⟨v2,rfl,hrd,hbel⟩;have st2:=St.call st hbel;clear hbel st)
  |(go_at_call 82
    refine(HSum.out v2 _ (StH.has st2 HH.out) hrd (StH.hasK st2 HH.out HKK.out)).mono ?_;rintro e w3 ⟨rfl,hg,hh3⟩;have st3:=StH.sum st2 HH.out hg hh3;clear st2 hg hrd hh3)
  |(refine zAM rfl 182 _ rfl (zBB 0 [.iface 184 (.agg lc),.agg (kv D)]) ?_ _ (builtNode _ _ D HD.out) ?_;(·(simp[Act.eval,zBB];done)))
  |(refine zAD st3 rfl 182 _ rfl _ rfl ?_;intro b4 w4 st4;clear st3))
 go_ret;exact⟨b4,rfl,st4.above (i:=0) rfl,st4.at (i:=0) rfl,StH.grown st4,StH.has st4 HH.out⟩
end
section
set_option maxHeartbeats 1000000
open Go Go.RowKit
section
variable {P:Program} {o:Oper} {a:Act} {w w0:World}
theorem zHS{I:World→Prop}{F:Value→Prop}(ty:TypeId)(x:Operand)(ho:o.op=.load ty x)
  (g off n:Nat) (hx:a.eval x=.pointer (some ⟨g,off,none⟩)) (hagg:∃d,P.underlying ty=some d∧zGJ d=true) (cs:Array Value) (t:TypeId)
  (hg:∀w,I w→w.heap[g]?=some (.cells cs t (0,0))) (hi:(P.info? ty).map (·.size)=some n) (hle:off+n≤cs.size) (res:Array Value) (hres:cs.extract off (off+n)=res)
  (hF:F (.agg res)):∃v,Mix.OpUp P I o a v∧F v:=by
 obtain⟨d,hu,hd⟩:=hagg;subst hres;refine⟨_,fun w hw=>?_,hF⟩;unfold execOp;have hl:=zDD (P:=P) w g off n t ty cs (0,0) d (hg w hw) hu hd hi hle;simp only[ho,hx,Instr.loadAt,Instr.sureAddr,Sem.run_bind,Sem.run_pure,Result.andThen_ok,hl];exact⟨rfl,Below.refl _ _⟩
theorem zFN{I:World→Prop}{F:Value→Prop}(t:TypeId)(parts:Array (Nat×Operand))(ho:o.op=.build t parts)(ps:List (Nat×Value))(hp:(parts.map fun (i,x)=>(i,a.eval x)).toList=ps)(cs:Array Value)(hf:P.built t ps=some cs)
  (hF:F (.agg cs)):∃v,Mix.OpUp P I o a v∧F v:=by
 refine⟨_,fun w hw=>?_,hF⟩;unfold execOp;subst hp;simp only[ho,Sem.run_bind,run_build w t _ cs hf,Result.andThen_ok,Sem.run_pure];exact⟨rfl,Below.refl _ _⟩
end
def zAV(k:List Nat)(s:Value):Array Value:=kv k++#[s]
theorem zDJ(k:List Nat)(s:Value)(h:k.length=32):(zAV k s).extract 0 (0+32)=kv k:=by
 unfold zAV;rw[Nat.zero_add,←h,←zAF,Array.extract_append];simp
theorem zII(k:List Nat)(s:Value)(h:k.length=32):(zAV k s)[32]?=some s:=by
 unfold zAV;rw[Array.getElem?_append_right (by rw[zAF,h];decide),zAF,h];rfl
theorem zBN:∃d,Tryz.prog.underlying 37=some d∧zGJ d=true:=⟨_,zBF,rfl⟩
set_option maxRecDepth 20000 in
theorem zIR(KK:List Int)(k l:List Nat)(a:Option Addr)(c:Nat)(hb cb:Nat)(bits n:Int)(w:World)(hh:HasH hb cb bits n w)(hB:0≤bits∧bits≤256)(hn : -4611686018427387904≤n∧n<4611686018427387904)
  (hk:Key k) (hby:∀x∈l,x<256) (hl:l.length≤1099511627770) (hv:RdB w (.slice a l.length c) l) (hK:HasK KK w) :
  Calls Tryz.prog 143 #[.pointer (some ⟨hb,0,none⟩),.agg (zAV k (.slice a l.length c))] w
   fun e w'=>∃nb a' c',e=.returned (.pointer (some ⟨nb,0,none⟩))∧w.heap.size≤nb ∧
    w'.heap[nb]?=some (.cells (zCF (zED k (zBE KK bits (2::l)) (.slice a' l.length c')) (zBE KK bits (0::(k++zBE KK bits (2::l))))) 182 (0,0)) ∧
    RdB w' (.slice a' l.length c') l∧w.grownBy w' (some cb)∧HasH hb cb bits (n+2) w':=by
 have HH:=Lib.hid hh;have HV:=Lib.hid hv;have HKK:=Lib.hid hK;have HLeaf:=Lib.hid (fun wx h1 h2 h3=>LeafOf_calls KK k l (.slice a l.length c) hb cb bits n wx h1 hB ⟨hn.1,Int.le_of_lt hn.2⟩ hk.len hby hl h2 h3);have HClone:=Lib.hid (fun wx h=>CloneB_calls l (.slice a l.length c) wx (Nat.le_trans hl (by decide)) h);have HWith:=Lib.hid (fun a' c' wx h1 h2=>withLeaf_calls KK k (zBE KK bits (2::l)) a' l.length c' hb cb bits (n+1) wx h1 hB ⟨by omega,by omega⟩ hk (zBG KK bits (2::l)) h2);have HK32:=Lib.hid hk.len;have HD:=Lib.hid (zBG KK bits (2::l)).len;have HE1:=Lib.hid (zDJ k (.slice a l.length c) hk.len);have HE2:=Lib.hid (zII k (.slice a l.length c) hk.len);have HES:Hid ((zAV k (.slice a l.length c)).size=33):=by unfold Hid zAV;simp[zAF,hk.len]
 clear hh hv hK hB hn hk hby hl;have st:=St.init w;generalize zAV k (.slice a l.length c)=ec at *;generalize zBE KK bits (2::l)=D at *;generalize zBE KK bits (0::(k++D))=DD at *;generalize hln:l.length=ln at *;go_enter Tryz.func143,Tryz.ntmps143
 go_wp2_with (first
  |(refine zAD st rfl 52 _ rfl _ rfl ?_;intro b3 w1 st1;clear st))
 have st2:=StH.init HH.out st1;refine Mix2.wp_region_mix (J:=fun wx=>∃m,StH w cb m [(b3,ec,52)] wx) 12 (StH w cb n [(b3,ec,52)]) zBL (by kernel_rfl) st2.drew ?_;intro F inv;have q:∀wx,(∃m,StH w cb m [(b3,ec,52)] wx)→wx.cell? ⟨b3,32,none⟩=some (.slice a ln c):=fun wx ⟨m,h⟩=>(h.cell (i:=0) rfl 32).trans HE2.out
 refine Mix2.good_batch (f:=4) F St.up (fun _ h=>⟨_,h⟩) [0,1,2,3,4,5,7,8] _ _ inv (by kernel_rfl) ?_;clear inv st1 st2
 iterate 3
  (refine Mix.wpUp_cons rfl (fun K hK=>?_);go_simp;apply zAU;· (intro wx hw;go_simp;(try go_ints);(try go_simp);(try (rw[if_pos (by omega)]));(try go_simp);(first | done | rfl))
   refine hK _ ?_;clear hK K)
 (refine Mix.wpUp_cons rfl (fun K hK=>?_);go_simp;refine zHS 37 _ rfl b3 0 32 rfl zBN _ _ (fun wx hw=>hw.choose_spec.at (i:=0) rfl) zBC (Nat.le_of_lt (HES.out▸(by decide:0+32<33))) _ HE1.out ?_
  refine hK _ ?_;clear hK K)
 iterate 4
  (refine Mix.wpUp_cons rfl (fun K hK=>?_);go_simp;apply zAU;· (intro wx hw;have q1:=q wx hw;go_simp;(try go_ints);(try go_simp);(try (rw[if_pos (by omega)]));(try go_simp);(first | done | rfl))
   refine hK _ ?_;clear hK K)
 refine Mix.wpUp_nil ?_;intro inv;clear q;refine Mix2.good_one (i:=6) (f:=3) (by kernel_rfl) inv (fun w4 st4=>?_);clear inv;refine zAT rfl rfl 170 #[.pointer (some ⟨hb,0,none⟩),.agg (kv k),.slice a ln c] (by go_simp) ?_;refine(HLeaf.out _ (StH.has st4 HH.out) (StH.rd st4 HH.out HV.out) (StH.hasK st4 HH.out HKK.out)).mono ?_;rintro e w5 ⟨rfl,hg,hh5⟩;have st5:=StH.sum st4 HH.out hg hh5;refine⟨_,rfl,StH w cb (n+1) [(b3,ec,52)],St.up,st5,fun _ h=>⟨_,h⟩,fun inv=>?_⟩;clear st4 st5 hg hh5;refine Mix2.good_one (i:=9) (f:=2) (by kernel_rfl) inv (fun w7 st7=>?_);clear inv;refine zAT rfl rfl 171 #[.slice a ln c] (by go_simp) ?_;refine(HClone.out _ (StH.rd st7 HH.out HV.out)).mono ?_;rintro e w6 ⟨v6,rfl,hrd,hbel⟩;obtain⟨a6,c6,hv6,_⟩:=hrd.open;rw[hln] at hv6;subst hv6;refine⟨_,rfl,fun wx=>StH w cb (n+1) [(b3,ec,52)] wx∧RdB wx (.slice a6 ln c6) l,fun wx wy h hb=>⟨St.call h.1 hb,h.2.call hb⟩,⟨St.call st7 hbel,hrd⟩,fun _ h=>⟨_,h.1⟩,fun inv=>?_⟩;clear st7 hbel hrd;refine Mix2.good_batch (f:=0) F (fun wx wy h hb=>⟨St.call h.1 hb,h.2.call hb⟩) (fun _ h=>⟨_,h.1⟩) [10,11] _ _ inv (by kernel_rfl) ?_;clear inv
 (refine Mix.wpUp_cons rfl (fun K hK=>?_);go_simp;refine zFN 184 _ rfl (zBB 0 [.agg (kv (k++D)),.slice a6 ln c6]) (by simp[Act.eval,zBB]) _ (builtNodeLeaf k D a6 ln c6 HK32.out HD.out) ?_
  refine hK _ ?_;clear hK K)
 iterate 1
  (refine Mix.wpUp_cons rfl (fun K hK=>?_);go_simp;apply zAU;· (intro wx hw;go_simp;(try go_ints);(try go_simp);(try (rw[if_pos (by omega)]));(try go_simp);(first | done | rfl))
   refine hK _ ?_;clear hK K)
 refine Mix.wpUp_nil ?_;intro inv;clear inv F;refine⟨by kernel_rfl,fun w8 st8=>?_⟩;obtain⟨st8,hrd8⟩:=st8;simp only[List.drop_succ_cons,List.drop_zero]
 go_wp2_with (first
  |(go_at_call 169
    refine(HWith.out a6 c6 w8 (StH.has st8 HH.out) (StH.hasK st8 HH.out HKK.out)).mono ?_;rintro e w9 ⟨nb,rfl,hnb,hrow,hg,hh9⟩))
 have st9:=StH.sum st8 HH.out hg hh9;have hsz:=st8.size;go_ret;refine⟨nb,a6,c6,rfl,Nat.le_trans hsz hnb,hrow,?_,StH.grown st9,?_⟩
 ·exact hrd8.turn (StH.has st8 HH.out).c hg
 ·rw[show n+2=n+1+1 by omega]
  exact hh9
end
section
set_option maxHeartbeats 1000000
open Go Go.RowKit
theorem nodeCells_digest(c:Value)(d:List Nat)(h:d.length=32):(zCF c d).extract 1 (1+32)=kv d:=by
 unfold zCF;rw[Array.extract_append];have h1:(kv d).size=32:=by rw[zAF,h]
 have h2:(#[c]:Array Value).extract 1 (1+32)=#[]:=rfl;rw[h2,show 1 - (#[c]:Array Value).size=0 from rfl,show 1+32 - (#[c]:Array Value).size=(kv d).size from h1.symm,Array.extract_size,Array.empty_append]
theorem nodeCells_size(c:Value)(d:List Nat)(h:d.length=32):(zCF c d).size=33:=by unfold zCF;rw[Array.size_append,zAF,h];rfl
theorem nodeCells_content(c:Value)(d:List Nat):(zCF c d)[0]?=some c:=by unfold zCF;rw[Array.getElem?_append_left Nat.zero_lt_one];rfl
theorem zFZ:∃d,Tryz.prog.underlying 38=some d∧zGJ d=true:=⟨_,zEE,rfl⟩
set_option maxRecDepth 20000 in
theorem DigestNil_calls(KK:List Int)(hb cb:Nat)(bits n:Int)(w:World)(hh:HasH hb cb bits n w)(hB:0≤bits∧bits≤256)(hn : -4611686018427387904≤n∧n≤4611686018427387904)(hK:HasK KK w) :
  Calls Tryz.prog 43 #[.pointer (some ⟨hb,0,none⟩),.pointer none] w
   fun e w'=>e=.returned (.agg (kv (zBE KK bits [3])))∧w.grownBy w' (some cb)∧HasH hb cb bits (n+1) w':=by
 have HH:=Lib.hid hh;have HKK:=Lib.hid hK;have HSum:=Lib.hid (fun v2 wx h1 h2 h3=>zHQ KK [3] v2 hb cb bits n wx h1 hB hn (by decide) (by decide) h2 h3);have HD:=Lib.hid (zBG KK bits [3]).len;clear hh hK hB hn;generalize zBE KK bits [3]=D at *;have st:=StH.init HH.out (St.init w);go_enter Tryz.func43,Tryz.ntmps43
 go_wp2_with (first
  |(refine zAE st rfl 38 rfl _ zCG ?_;intro b4 w1 st1;clear st)
  |(go_at_call 83;refine(Empty_calls _).mono ?_;rintro e w2 ⟨v2,rfl,hrd,hbel⟩;have st2:=St.call st1 hbel;clear hbel st1)
  |(go_at_call 82;refine(HSum.out v2 _ (StH.has st2 HH.out) hrd (StH.hasK st2 HH.out HKK.out)).mono ?_
    rintro e w3 ⟨rfl,hg,hh3⟩;have st3:=StH.sum st2 HH.out hg hh3;clear st2 hg hrd hh3)
  |(refine zAA st3 rfl 38 _ _ rfl 0 b4 rfl (.agg (kv D)) rfl _ _ rfl (zCA HD.out) (by show (kv D).size=_;rw[zAF,HD.out,zAF];rfl) (zBJ _) _ rfl ?_;intro w4 st4;clear st3))
 exact zBX rfl b4 _ _ _ rfl (st4.at (i:=0) rfl) zEE rfl (zCA HD.out) rfl ⟨rfl,StH.grown st4,StH.has st4 HH.out⟩
set_option maxRecDepth 20000 in
theorem zGR(c:Value)(d:List Nat)(hd:d.length=32)(h:Value)(nb:Nat)(t:TypeId)(w:World)(hn:w.heap[nb]?=some (.cells (zCF c d) t (0,0))) :
  Calls Tryz.prog 43 #[h,.pointer (some ⟨nb,0,none⟩)] w fun e w'=>e=.returned (.agg (kv d))∧Below w.heap.size w w':=by
 have HN:=Lib.hid hn;have HD:=Lib.hid hd;have HP:=Lib.hid (nodeCells_digest c d hd);have HS:=Lib.hid (nodeCells_size c d hd);have hlt:=zAG hn;clear hn hd;generalize zCF c d=nc at *;have st:=St.init w;go_enter Tryz.func43,Tryz.ntmps43
 go_wp2_with (first
  |(refine zAE st rfl 38 rfl _ zCG ?_;intro b4 w1 st1;clear st;have hn1:=(st1.below.block nb hlt).trans HN.out)
  |(refine zAP rfl 38 _ rfl nb 1 32 rfl zFZ _ _ _ hn1 zBV (by rw[HS.out];decide) _ HP.out ?_)
  |(refine zAA st1 rfl 38 _ _ rfl 0 b4 rfl (.agg (kv d)) rfl _ _ rfl (zCA HD.out) (by show (kv d).size=_;rw[zAF,HD.out,zAF];rfl) (zBJ _) _ rfl ?_;intro w4 st4;clear st1))
 exact zBX rfl b4 _ _ _ rfl (st4.at (i:=0) rfl) zEE rfl (zCA HD.out) rfl ⟨rfl,st4.below⟩
theorem zDT(w:World):Calls Tryz.prog 39 #[.pointer none] w fun e w'=>e=.returned (.int .i64 0)∧w'=w:=by
 go_enter Tryz.func39,Tryz.ntmps39;go_wp2;go_ret;exact⟨rfl,rfl⟩
theorem taLeaf(lc:Array Value)(w:World):(Instr.typeAssert (.iface 184 (.agg lc)) 180 184 true).run Tryz.prog w=.ok (.tuple #[.agg lc,.bool true]) w:=by kernel_rfl
theorem taLeaf1(lc:Array Value)(w:World):(Instr.typeAssert (.iface 184 (.agg lc)) 180 184 false).run Tryz.prog w=.ok (.agg lc) w:=by kernel_rfl
theorem zIJ:(Tryz.prog.info? 184).bind (·.zero)=some (.agg (zBI (List.replicate 32 0) (List.replicate 32 0) (.slice none 0 0))):=by kernel_rfl
theorem builtLeafZero:Tryz.prog.built 184 []=some (zBI (List.replicate 32 0) (List.replicate 32 0) (.slice none 0 0)):=by kernel_rfl
theorem zFC:(Tryz.prog.info? 184).map (·.size)=some 65:=by kernel_rfl
theorem aggNodeLeaf:∃d,Tryz.prog.underlying 184=some d∧zGJ d=true:=by
 have h:(Tryz.prog.underlying 184).map zGJ=some true:=by kernel_rfl
 cases hq:Tryz.prog.underlying 184 with
 |none=>rw[hq] at h;cases h
 |some d=>rw[hq] at h;exact⟨d,rfl,Option.some.inj h⟩
set_option maxRecDepth 20000 in
theorem zGK(lc:Array Value)(nb:Nat)(w:World)(hn:w.cell? ⟨nb,0,none⟩=some (.iface 184 (.agg lc))) :
  Calls Tryz.prog 39 #[.pointer (some ⟨nb,0,none⟩)] w fun e w'=>e=.returned (.int .i64 1)∧w'=w:=by
 have ht:=taLeaf lc w;go_enter Tryz.func39,Tryz.ntmps39;go_wp2;go_ret;exact⟨rfl,rfl⟩
theorem zIN(k vd:List Nat)(s:Value)(hs:s.oneCell'=true):∀u∈(zBI k vd s).toList,u.oneCell'=true:=by
 intro u hu;unfold zBI at hu;rw[Array.toList_append,List.mem_append] at hu;rcases hu with hu | hu
 ·exact zBJ _ u hu
 ·obtain rfl:u=s:=by simpa using hu
  exact hs
set_option maxRecDepth 20000 in
theorem leafNil_calls(w:World):Calls Tryz.prog 77 #[.pointer none] w fun e w'=>e=.returned (.agg (zBI (List.replicate 32 0) (List.replicate 32 0) (.slice none 0 0)))∧Below w.heap.size w w':=by
 have H1:=Lib.hid (zIN (List.replicate 32 0) (List.replicate 32 0) (.slice none 0 0) rfl);have H2:=Lib.hid builtLeafZero;have H3:=Lib.hid zIJ;have H4:Hid ((zBI (List.replicate 32 0) (List.replicate 32 0) (.slice none 0 0)).size=65):=by unfold Hid zBI;rw[Array.size_append,zAF];rfl
 generalize zBI (List.replicate 32 0) (List.replicate 32 0) (.slice none 0 0)=lc at *;have st:=St.init w;go_enter Tryz.func77,Tryz.ntmps77
 go_wp2_with (first
  |(refine zAE st rfl 184 rfl _ H3.out ?_;intro b2 w1 st1;clear st)
  |(go_at_call 39;refine(zDT _).mono ?_;rintro e w2 ⟨rfl,rfl⟩)
  |(refine zAM rfl 184 _ rfl [] ?_ _ H2.out ?_;(·(simp[Act.eval];done)))
  |(refine zAA st1 rfl 184 _ _ rfl 0 b2 rfl (.agg lc) rfl _ _ rfl (by show _=some lc.size;rw[H4.out];exact zFC) rfl H1.out _ rfl ?_;intro w4 st4;clear st1))
 obtain⟨dL,hdL,hagg⟩:=aggNodeLeaf;exact zBX rfl b2 _ _ _ rfl (st4.at (i:=0) rfl) hdL hagg (by show _=some lc.size;rw[H4.out];exact zFC) rfl ⟨rfl,st4.below⟩
set_option maxRecDepth 20000 in
theorem leafLeaf_calls(lc:Array Value)(H4:Hid (lc.size=65))(H1:Hid (∀u∈lc.toList,u.oneCell'=true))(nb:Nat)(w:World)(hn:w.cell? ⟨nb,0,none⟩=some (.iface 184 (.agg lc))) :
  Calls Tryz.prog 77 #[.pointer (some ⟨nb,0,none⟩)] w fun e w'=>e=.returned (.agg lc)∧Below w.heap.size w w':=by
 have H3:=Lib.hid zIJ;have H5:Hid ((zBI (List.replicate 32 0) (List.replicate 32 0) (.slice none 0 0)).size=65):=by unfold Hid zBI;rw[Array.size_append,zAF];rfl
 generalize zBI (List.replicate 32 0) (List.replicate 32 0) (.slice none 0 0)=zc at *;have hlt:=zAS hn;have st:=St.init w;have ht:=taLeaf1 lc;go_enter Tryz.func77,Tryz.ntmps77
 go_wp2_with (first
  |(refine zAE st rfl 184 rfl _ H3.out ?_;intro b2 w1 st1;clear st;have hn1:=(st1.below.cell hlt).trans hn)
  |(go_at_call 39;refine(zGK lc nb _ hn1).mono ?_;rintro e w2 ⟨rfl,rfl⟩)
  |(refine zAA st1 rfl 184 _ _ rfl 0 b2 rfl (.agg lc) rfl _ _ rfl (by show _=some lc.size;rw[H4.out];exact zFC) (by rw[H5.out];exact H4.out) H1.out _ rfl ?_;intro w4 st4;clear st1))
 obtain⟨dL,hdL,hagg⟩:=aggNodeLeaf;exact zBX rfl b2 _ _ _ rfl (st4.at (i:=0) rfl) hdL hagg (by show _=some lc.size;rw[H4.out];exact zFC) rfl ⟨rfl,st4.below⟩
end
section
set_option maxHeartbeats 1000000
open Go Go.RowKit
theorem fieldLeaf(lc:Array Value)(w:World):(Instr.field 184 (.agg lc) 0).run Tryz.prog w=.ok (.agg (lc.extract 0 64)) w:=by kernel_rfl
set_option maxRecDepth 20000 in
theorem LeafM_calls(lc:Array Value)(l:List Nat)(H64:l.length=64)(hl:lc.extract 0 64=kv l)(n:Value)(w:World)
  (hcall:∀wx,Below w.heap.size w wx→Calls Tryz.prog 77 #[n] wx fun e w'=>e=.returned (.agg lc)∧Below wx.heap.size wx w') :
  Calls Tryz.prog 40 #[n] w fun e w'=>e=.returned (.agg (kv l))∧Below w.heap.size w w':=by
 have HL:=Lib.hid hl;have HC:=Lib.hid hcall;obtain⟨z64,hz64,hz0⟩:=zeroLeafE;clear hl hcall;have st:=St.init w;have hfl:=fieldLeaf lc;go_enter Tryz.func40,Tryz.ntmps40
 go_wp2_with (first
  |(refine zAE st rfl 40 rfl _ hz0 ?_;intro b2 w1 st1;clear st)
  |(go_at_call 77;refine(HC.out _ st1.below).mono ?_;rintro e w2 ⟨rfl,hbel⟩;have st2:=st1.call hbel;clear st1 hbel)
  |(refine zAA st2 rfl 40 _ _ rfl 0 b2 rfl (.agg (lc.extract 0 64)) rfl _ _ rfl (by show _=some (lc.extract 0 64).size;rw[HL.out];exact zHJ H64) (by show (lc.extract 0 64).size=_;rw[HL.out,zAF,hz64,H64]) (by show ∀u∈(lc.extract 0 64).toList,_;rw[HL.out];exact zBJ _) _ rfl ?_;intro w4 st4;clear st2))
 have hv:(Value.agg (lc.extract 0 64)).cells=kv l:=HL.out;rw[hv] at st4;obtain⟨dL,hdL,hagg⟩:=aggLeaf;exact zBX rfl b2 _ _ _ rfl (st4.at (i:=0) rfl) hdL hagg (zHJ H64) rfl ⟨rfl,st4.below⟩
theorem LeafMNil_calls(w:World):Calls Tryz.prog 40 #[.pointer none] w fun e w'=>e=.returned (.agg (kv (List.replicate 64 0)))∧Below w.heap.size w w' :=
 LeafM_calls _ (List.replicate 64 0) (by simp) (zHW _ _ _ (by simp)) _ w fun wx _=>leafNil_calls wx
theorem LeafMLeaf_calls(k vd:List Nat)(s:Value)(hs:s.oneCell'=true)(hk:k.length=32)(hv:vd.length=32)(nb:Nat)(w:World)(hn:w.cell? ⟨nb,0,none⟩=some (zED k vd s)) :
  Calls Tryz.prog 40 #[.pointer (some ⟨nb,0,none⟩)] w fun e w'=>e=.returned (.agg (kv (k++vd)))∧Below w.heap.size w w' :=
 LeafM_calls _ (k++vd) (by simp[hk,hv]) (zHW _ _ _ (by simp[hk,hv])) _ w fun wx hb =>
  leafLeaf_calls _ (by unfold Hid zBI;rw[Array.size_append,zAF];simp[hk,hv]) (zIN _ _ _ hs) nb wx ((hb.cell (zAS hn)).trans hn)
end
section
set_option maxHeartbeats 2000000
open Go Go.RowKit
attribute [local go_sem] Oper.semAt_some
theorem way_calls(p:Option Addr)(k:List Nat)(w:World) :
  Calls Tryz.prog 76 #[.pointer p,.agg (kv k)] w fun e w'=>∃Bn Bk,e=.returned (.func (.func 122) #[] #[.pointer (some ⟨Bn,0,none⟩),.pointer (some ⟨Bk,0,none⟩)]) ∧
   St w.heap.size w [(Bk,kv k,37),(Bn,#[.pointer p],59)] w':=by
 have st:=St.init w;go_enter Tryz.func76,Tryz.ntmps76
 go_wp2_with (first
  |(refine zAD (by assumption) rfl 37 _ rfl _ rfl ?_;intro b2 w2 st2;clear st1)
  |(refine zCO st rfl 59 _ rfl (.pointer p) rfl ?_;intro b1 w1 st1;clear st))
 go_ret;exact⟨_,_,rfl,st2⟩
set_option maxRecDepth 100000 in
theorem way1_in(n:Nat)(l Bn Bk:Nat)(p:Option Addr)(kk:Int)(hkk:kk≠2)(Good:World→Prop)(hcell:∀wx,Good wx→wx.cell? ⟨Bn,0,none⟩=some (.pointer p))
  (hKind:∀wx,Good wx→Calls Tryz.prog 39 #[.pointer p] wx fun e w'=>e=.returned (.int .i64 kk)∧w'=wx) (Kp:World→World→Prop) (hKp:∀A B,Kp A B→Good A→Good B) (hn:1≤n) (J Jx:List Unit→World→Prop)
  (hY:∀pre x W,J pre W→pre.length<1→YieldAt Fence.wide (n - 1) Tryz.prog l #[.int .i64 0,.pointer p] W fun e W' =>
   (e=.returned (.bool true)∧J (pre++[x]) W'∧Kp W W')∨(e=.returned (.bool false)∧Jx (pre++[x]) W'))
  (W:World) (hG:Good W) (h0:J [] W) :
  CallsIn Fence.wide n Tryz.prog 122 #[.func (.yield l) #[] #[],.pointer (some ⟨Bn,0,none⟩),.pointer (some ⟨Bk,0,none⟩)] W fun e W'=>(∃v,e=.returned v) ∧
   ((∃ys,ys=[()]∧J ys W')∨(∃pre,Jx pre W')):=by
 have HK:=Lib.hid hKind;clear hKind;refine callsIn_of_wp Tryz.func122 rfl trivial ?_ rfl;simp only[Tryz.ntmps122,List.size_toArray,List.length_cons,List.length_nil,Nat.reduceAdd,Nat.reduceSub,Array.replicate_succ,Array.replicate_zero,List.push_toArray,List.append_toArray,List.nil_append,List.cons_append]
 gi_wp2
 gi_loopw [4] (fun i wr=>i=.int .i64 0∧Good wr∧J [] wr) (fun _ _=>0)
 case atStart=>exact⟨rfl,hG,h0⟩
 case round =>
  obtain⟨rfl,hGs,hJs⟩:=hrel;have hc:=hcell wr hGs;obtain⟨fn,tmps,assign,body,hy,hR⟩:=hY [] () wr hJs (by decide)
  gi_wp2
  refine hR.mono ?_;rintro e W3 (⟨rfl,hJ3,hk3⟩ | ⟨rfl,hJx3⟩)
  ·have hG3:=hKp _ _ hk3 hGs
   have hc3:=hcell _ hG3;clear hc
   gi_wp2_with (first
    |(refine And.intro trivial ?_;gi_at_call 39;refine(callsIn_wide.2 (HK.out _ hG3)).mono ?_;rintro e w4 ⟨rfl,rfl⟩))
   go_end0
   exact⟨⟨_,rfl⟩,.inl ⟨_,rfl,hJ3⟩⟩
  ·gi_wp2_with (first | (refine And.intro trivial ?_))
   go_end0
   exact⟨⟨_,rfl⟩,.inr ⟨_,hJx3⟩⟩
theorem way_stops(n:Nat)(hn:1≤n)(Bn Bk:Nat)(p:Option Addr)(kk:Int)(hkk:kk≠2)(Good:World→Prop)(hcell:∀wx,Good wx→wx.cell? ⟨Bn,0,none⟩=some (.pointer p))
  (hKind:∀wx,Good wx→Calls Tryz.prog 39 #[.pointer p] wx fun e w'=>e=.returned (.int .i64 kk)∧w'=wx) (Kp:World→World→Prop) (hKp:∀A B,Kp A B→Good A→Good B) (w:World)
  (hG:∀W,Below w.heap.size w W→Good W) :
  SeqStopsK Fence.wide n Tryz.prog 122 #[.pointer (some ⟨Bn,0,none⟩),.pointer (some ⟨Bk,0,none⟩)] (fun _:Unit=>#[Value.int .i64 0,.pointer p]) Kp (fun ys=>ys=[()]) (fun _=>True) 1 w:=fun l J Jx W hW _ _ hY h0=>by
 refine(way1_in n l Bn Bk p kk hkk Good hcell hKind Kp hKp hn J Jx hY W (hG W hW) h0).mono ?_;rintro e W' ⟨he,⟨ys,rfl,hj⟩ | ⟨pre,hj⟩⟩
 ·exact⟨he,.inl ⟨_,rfl,hj⟩⟩
 ·exact⟨he,.inr ⟨_,trivial,hj⟩⟩
end
section
set_option maxHeartbeats 4000000
open Go Go.RowKit
attribute [local go_sem] Oper.semAt_some
theorem zeroPN:(Tryz.prog.info? 59).bind (·.zero)=some (.pointer none):=by kernel_rfl
theorem zFU:(Tryz.prog.info? 59).map (·.size)=some 1:=by kernel_rfl
theorem zeroI64:(Tryz.prog.info? 3).bind (·.zero)=some (.int .i64 0):=by kernel_rfl
section
variable {P:Program} {o:Oper} {a:Act}
theorem zDC{I:World→Prop}(ty:TypeId)(x y:Operand)(ho:o.op=.store ty x y)(b j:Nat)(hx:a.eval x=.pointer (some ⟨b,j,none⟩))(v:Value)(hy:a.eval y=v)
  (hi:(P.info? ty).map (·.size)=some 1) (hv:v.cells=#[v]) (h1:v.oneCell'=true) (hI:∀w,I w→(∃c,w.cell? ⟨b,j,none⟩=some c)∧w.frozen? ⟨b,j,none⟩=false∧I (w.setCell ⟨b,j,none⟩ v)):∃u,Inv.OpInv P I o a u:=by
 refine⟨undef,fun w hw=>?_⟩;obtain⟨⟨c,hc⟩,hfr,hIw⟩:=hI w hw
 cases hq:P.info? ty with
 |none=>simp[hq] at hi
 |some inf =>
  have hsz:inf.size=1:=by simpa[hq] using hi
  have hst:(storeCells ⟨b,j,none⟩ [v]).run P w=.ok () (w.setCell ⟨b,j,none⟩ v):=by
   have hadd:(⟨b,j,none⟩:Addr).add 0=⟨b,j,none⟩:=by simp[Addr.add]
   simp only[storeCells,Sem.run_bind,hadd];rw[run_store P w _ v _ h1,hc];simp[hfr]
  have hsv:(storeVar ty ⟨b,j,none⟩ v).run P w=.ok () (w.setCell ⟨b,j,none⟩ v):=by
   simp[storeVar,Sem.run_bind,sizeOf,typeInfo,hq,hsz,hv,hst]
  unfold execOp;simp only[ho,hx,hy,Instr.storeAt,Instr.sureAddr,Sem.run_bind,Sem.run_pure,Result.andThen_ok,hsv];exact⟨rfl,hIw⟩
end
theorem St.join{B:Nat}{w0 w w':World}{L L':List (Nat×Array Value×TypeId)}(st:St B w0 L w)(st':St w.heap.size w L' w'):St B w0 (L'++L) w':=by
 have h:=st.call st'.below;refine⟨h.below,h.size,fun q hq=>?_,?_⟩
 ·rcases List.mem_append.1 hq with hq | hq
  ·exact⟨Nat.le_trans st.size (st'.rows q hq).1,(st'.rows q hq).2⟩
  ·exact h.rows q hq
 ·rw[List.map_append,List.nodup_append]
  refine⟨st'.nodup,h.nodup,fun a ha b hb e=>?_⟩;obtain⟨q,hq,rfl⟩:=List.mem_map.1 ha;obtain⟨r,hr,rfl⟩:=List.mem_map.1 hb;have h1:=(st'.rows q hq).1;have h2:=zAG (st.rows r hr).2;omega
theorem results_cells2{P:Program}{fn:Func}{p q:Tmp}{t u:TypeId}(h:fn.results=#[.cell p t,.cell q u]){tmps:Array Value}{w:World}(a b:Addr)(ha:tmps.getD p undef=.pointer (some a))(hb:tmps.getD q undef=.pointer (some b))
  {x y:Value} (hx:(loadVar t a).run P w=.ok x w) (hy:(loadVar u b).run P w=.ok y w):(results fn tmps).run P w=.ok (.tuple #[x,y]) w:=by
 have ha':tmps[p]?.getD undef=.pointer (some a):=by simpa using ha
 have hb':tmps[q]?.getD undef=.pointer (some b):=by simpa using hb
 simp[results,h,ha',hb',asAddr,hx,hy]
theorem zES{P:Program}{t:TypeId}{a:Addr}{w:World}{v:Value}(hag:∃d,P.underlying t=some d∧zGJ d=false)(hc:w.cell? a=some v):(loadVar t a).run P w=.ok v w:=by
 obtain⟨d,hu,hd⟩:=hag;have hagg:(isAgg t).run P w=.ok false w:=by
  unfold isAgg;rw[Sem.run_bind,run_underlying hu w]
  cases d<;>simp_all [zGJ]
 simp[loadVar,Sem.run_bind,hagg,run_load,hc]
theorem aggPN:∃d,Tryz.prog.underlying 59=some d∧zGJ d=false:=by
 have h:(Tryz.prog.underlying 59).map zGJ=some false:=by kernel_rfl
 cases hq:Tryz.prog.underlying 59 with
 |none=>rw[hq] at h;cases h
 |some d=>rw[hq] at h;exact⟨d,rfl,Option.some.inj h⟩
theorem aggI64:∃d,Tryz.prog.underlying 3=some d∧zGJ d=false:=by
 have h:(Tryz.prog.underlying 3).map zGJ=some false:=by kernel_rfl
 cases hq:Tryz.prog.underlying 3 with
 |none=>rw[hq] at h;cases h
 |some d=>rw[hq] at h;exact⟨d,rfl,Option.some.inj h⟩
set_option maxRecDepth 100000 in
theorem Locate_calls(p:Option Addr)(k:List Nat)(hk:k.length=32)(kk:Int)(hkk:kk≠2)(w:World)
  (hKind:∀wx,Below w.heap.size w wx→Calls Tryz.prog 39 #[.pointer p] wx fun e w'=>e=.returned (.int .i64 kk)∧w'=wx) :
  Calls Tryz.prog 38 #[.pointer p,.agg (kv k)] w fun e w'=>e=.returned (.tuple #[.pointer p,.int .i64 0])∧Below w.heap.size w w':=by
 have HK:=Lib.hid hKind;have Hk:=Lib.hid hk;clear hKind hk;have st:=St.init w;refine(callsIn_wide (n:=3)).1 ?_;refine callsIn_of_wp_marks Tryz.func38 rfl trivial ?_ rfl;simp only[Tryz.ntmps38,List.size_toArray,List.length_cons,List.length_nil,Nat.reduceAdd,Nat.reduceSub,Array.replicate_succ,Array.replicate_zero,List.push_toArray,List.append_toArray,List.nil_append,List.cons_append];refine wpIn_wide.2 ?_
 go_wp2_with (first
  |(refine zAD st rfl 37 _ rfl _ rfl ?_;intro b3 w1 st1;clear st)
  |(refine zCS st1 rfl 59 rfl _ zeroPN ?_;intro b4 w2 st2;clear st1)
  |(refine zCS st2 rfl 3 rfl _ zeroI64 ?_;intro b5 w3 st3;clear st2)
  |(refine zAC rfl 37 _ rfl b3 rfl _ zBF rfl _ _ (st3.at (i:=2) rfl) (zAX Hk.out) ?_)
  |(go_at_call 76;refine(way_calls p k _).mono ?_;rintro e w4 ⟨Bn,Bk,rfl,stw⟩))
 have st5:St w.heap.size w ((Bk,kv k,37)::(Bn,#[.pointer p],59)::(b5,#[.int .i64 0],3)::(b4,#[.pointer none],59)::(b3,kv k,37)::[]) w4:=st3.join stw;clear st3 stw;have hb4:b4<w4.heap.size:=zAG (st5.at (i:=3) rfl);have hb5:b5<w4.heap.size:=zAG (st5.at (i:=2) rfl);have hBn:Bn<w4.heap.size:=zAG (st5.at (i:=1) rfl);have hcn:w4.cell? ⟨Bn,0,none⟩=some (.pointer p):=st5.cell (i:=1) rfl 0;have hbase:=st5.size;have hbel5:=st5.below;refine wpIn_wide.1 (wpIn_rangeFunc_ownG (F:=Fence.wide) (n:=3) rfl (by omega) (gf:=122) (lb:=#[.pointer (some ⟨Bn,0,none⟩),.pointer (some ⟨Bk,0,none⟩)]) rfl trivial (enters_of Tryz.func122 (by kernel_rfl) rfl)
  (way_stops 2 (by omega) Bn Bk p kk hkk (fun wx=>Below w.heap.size w wx∧wx.cell? ⟨Bn,0,none⟩=some (.pointer p)) (fun _ h=>h.2) (fun wx h=>HK.out wx h.1) (fun A B=>(Below w.heap.size w A∧A.cell? ⟨Bn,0,none⟩=some (.pointer p))→Below w.heap.size w B∧B.cell? ⟨Bn,0,none⟩=some (.pointer p)) (fun _ _ h g=>h g) w4
   (fun W hW=>⟨hbel5.trans (hW.mono hbase),(hW.cell hBn).trans hcn⟩))
  (fun h k g=>k (h g)) (fun W x o o' hx _ _ _ g=>⟨g.1.grown (grownBy_putObj' W x o') (Nat.le_trans (Nat.le_refl _) g.1.size) (fun j e=>by cases e;omega),(World.cell?_of_block (World.putObj_heap_other (by show Bn≠x;omega))).trans g.2⟩) (Below.refl _ _) (fun _=>rfl)
  (fun pre W=>St w.heap.size w ((Bk,kv k,37)::(Bn,#[.pointer p],59)::(b5,#[.int .i64 0],3)::(b4,#[.pointer (if pre=[] then none else p)],59)::(b3,kv k,37)::[]) W)
  (fun _ _ _=>False) (St.ownFrom _ hbase) (fun _ _ _ _ _ h _ _=>h) st5
  (fun _=>{tmps:=#[.pointer p,.agg (kv k),undef,.pointer (some ⟨b3,0,none⟩),.pointer (some ⟨b4,0,none⟩),.pointer (some ⟨b5,0,none⟩),.int .i64 0,.pointer p,.pointer p,.agg (kv k),.func (.func 122) #[] #[.pointer (some ⟨Bn,0,none⟩),.pointer (some ⟨Bk,0,none⟩)],.int .i64 0,.pointer p,undef,undef,undef,undef],defers:=[]}) ?assign ?body ?done ?stop)
 case assign =>
  intro l' x W K' hK'
  gi_wp2
  exact hK'
 case stop =>
  rintro D c pre W _ _ h _;exact h.elim
 case body =>
  rintro l' pre x W st _;have hc4:=st.cell (i:=3) rfl 0;have hf4:=st.free (i:=3) rfl 0;have hne:b4≠b5:=by
   have:=st.nodup;simp at this;omega
  have st2:=st.set (i:=3) rfl 0 (.pointer p) rfl;have hc5:=st2.cell (i:=2) rfl 0;have hf5:=st2.free (i:=2) rfl 0;have st3:=st2.set (i:=2) rfl 0 (.int .i64 0) rfl
  gi_wp2
  have e:(if pre++[x]=[] then (none:Option Addr) else p)=p:=if_neg (by simp);refine⟨KeepsFrom.trans (KeepsFrom.of_grownBy (Go.Lib.grownBy_setCell W b4 0 _) (by rintro j ⟨⟩;exact hb4)) (KeepsFrom.of_grownBy (Go.Lib.grownBy_setCell _ b5 0 _) (by rintro j ⟨⟩;exact hb5)),fun _=>⟨st3.below,st3.cell (i:=1) rfl 0⟩,?_⟩;simp only[e];exact st3
 case done =>
  rintro D xs W hD rfl st hKd;rw[if_neg (by simp)] at st;go_wp2;refine Inv.wp_region_inv 4 (fun wx=>St w.heap.size w ((Bk,kv k,37)::(Bn,#[.pointer p],59)::(b5,#[.int .i64 0],3)::(b4,#[.pointer p],59)::(b3,kv k,37)::[]) wx∧wx.heap[D]?=some (.deferred (some []))) zBL (by kernel_rfl) ⟨st.drew,hKd⟩ ?_;have q:∀wx,(St w.heap.size w ((Bk,kv k,37)::(Bn,#[.pointer p],59)::(b5,#[.int .i64 0],3)::(b4,#[.pointer p],59)::(b3,kv k,37)::[]) wx∧wx.heap[D]?=some (.deferred (some [])))→wx.cell? ⟨b4,0,none⟩=some (.pointer p)∧wx.cell? ⟨b5,0,none⟩=some (.int .i64 0):=fun wx h=>⟨h.1.cell (i:=3) rfl 0,h.1.cell (i:=2) rfl 0⟩
  simp only[List.take_succ_cons,List.take_zero,List.drop_succ_cons,List.drop_zero]
  iterate 2
   (refine Inv.wpInv_step (fun K hK=>?_);go_simp;apply zAL;· (intro wx hw;have q1:=q wx hw;go_simp;(try go_ints);(try go_simp);(try (rw[if_pos (by omega)]));(try go_simp);(first | done | rfl))
    refine hK _ ?_;clear hK K)
  (refine Inv.wpInv_step (fun K hK=>?_);go_simp;refine And.intro (zDC 59 (.tmp 4) (.tmp 15) rfl b4 0 (by rfl) (.pointer p) (by rfl) zFU rfl rfl (fun wx h=>⟨⟨_,(q wx h).1⟩,h.1.free (i:=3) rfl 0,h.1.set (i:=3) rfl 0 (.pointer p) rfl,?h1⟩)) ?_
   case h1=>rw[Below.heap_setCell _ _ _ _ (by show D≠b4;omega)];exact h.2
   refine hK _ ?_;clear hK K)
  (refine Inv.wpInv_step (fun K hK=>?_);go_simp;refine And.intro (zDC 3 (.tmp 5) (.tmp 16) rfl b5 0 (by rfl) (.int .i64 0) (by rfl) sizeI64 rfl rfl (fun wx h=>⟨⟨_,(q wx h).2⟩,h.1.free (i:=2) rfl 0,h.1.set (i:=2) rfl 0 (.int .i64 0) rfl,?h1⟩)) ?_
   case h1=>rw[Below.heap_setCell _ _ _ _ (by show D≠b5;omega)];exact h.2
   refine hK _ ?_;clear hK K)
  refine Inv.wpInv_nil ?_;rintro w6 ⟨st6,hK6⟩;go_wp2;have st7:=st6.putDef (by omega) hK6;have hc4:=st7.cell (i:=3) rfl 0;have hc5:=st7.cell (i:=2) rfl 0;refine retM D rfl hK6 ⟨rfl,.tuple #[.pointer p,.int .i64 0],?_,rfl,st7.below⟩;exact results_cells2 rfl _ _ rfl rfl (zES aggPN hc4) (zES aggI64 hc5)
end
end Go.Proofs.YtlcngapphloafaaGreatDoor
