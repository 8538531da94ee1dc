/- Parts of the proof that are used by the claim: Slices, Fold, Last, List. No condition is added here. -/
import Derived.Test.YtlcngapphloafaaGreatDoorPk5
import Derived.Test.YtlcngapphloafaaGreatDoorPk6
import Derived.Test.YtlcngapphloafaaGreatDoorPk2
import Derived.Lib.SmallJoins
namespace Go.Proofs.YtlcngapphloafaaGreatDoor
section
open Go Go.RowKit
def Rd(w:World)(v:Value)(l:List Int):Prop :=
 l.length≤maxLen∧((l=[]∧∃a cap,v=.slice a 0 cap)∨∃b off cap,v=.slice (some ⟨b,off,none⟩) l.length cap∧∀i,i<l.length→w.cell? ⟨b,off+i,none⟩=some (.int .i64 (l.getD i 0)))
theorem zAS{w:World}{p:Addr}{v:Value}(h:w.cell? p=some v):p.block<w.heap.size:=block_lt_of_cell h
theorem Rd.call{w w':World}{v:Value}{l:List Int}(h:Rd w v l)(hb:Below w.heap.size w w'):Rd w' v l:=by
 refine⟨h.1,?_⟩;rcases h.2 with h | ⟨b,off,cap,hv,hc⟩
 ·exact .inl h
 ·refine .inr ⟨b,off,cap,hv,fun i hi=>?_⟩
  rw[hb.cell (zAS (hc i hi))];exact hc i hi
theorem Rd.below{B:Nat}{w w':World}{v:Value}{l:List Int}(h:Rd w v l)(hB:w.heap.size≤B)(hb:Below B w w'):Rd w' v l:=h.call (hb.mono hB)
theorem Rd.row{w:World}{b:Nat}{l:List Int}{t:TypeId}{cap:Nat}(hl:l.length≤maxLen)(h:w.heap[b]?=some (.cells (iv l) t (0,0))):Rd w (.slice (some ⟨b,0,none⟩) l.length cap) l :=
 ⟨hl,.inr ⟨b,0,cap,rfl,fun i hi=>by
  simp only[World.cell?,h,Option.isSome_none,Bool.false_eq_true,if_false,Nat.zero_add];exact iv_get l i hi⟩⟩
theorem Rd.nil(w:World):Rd w (.slice none 0 0) []:=⟨Nat.zero_le _,.inl ⟨rfl,_,_,rfl⟩⟩
theorem Rd.of_own{w:World}{base n:Nat}{v:Value}{l:List Int}(hn:n=l.length)(h:w.ownsRow base 3 1 v n (l.map fun x=>Value.int .i64 x))(hl:l.length≤maxLen):Rd w v l:=by
 subst hn;refine⟨hl,?_⟩;rcases h.2 with ⟨hv,h0⟩ | ⟨g,cap,cur,hv,_,hg,_,_,_,htake⟩
 ·exact .inl ⟨List.eq_nil_of_length_eq_zero h0,none,0,by rw[hv]⟩
 ·refine .inr ⟨g,0,cap,hv,fun i hi=>?_⟩
  simp only[World.cell?,hg,Option.isSome_none,Bool.false_eq_true,if_false,Nat.zero_add];have h1:(l.map fun x=>Value.int .i64 x)[i]?=some (.int .i64 (l.getD i 0)):=by
   rw[List.getElem?_map,List.getElem?_eq_getElem hi];simp[List.getD_eq_getElem?_getD,hi]
  rw[←htake,List.getElem?_take,if_pos (by omega)] at h1;rw[←Array.getElem?_toList];exact h1
theorem zAY{w w':World}{base:Nat}{e:TypeId}{size n:Nat}{v:Value}{xs:List Value}(h:w.ownsRow base e size v n xs)(hb:Below w.heap.size w w'):w'.ownsRow base e size v n xs:=by
 refine h.kept (row:=none) ⟨hb.os,hb.tape,hb.output,hb.size,fun k hk _=>hb.block k hk⟩ ?_
 cases hv:v.ownBlock with
 |none=>exact .inl rfl
 |some k=>exact .inr (by simp)
section
variable {P:Program} {ops:Array Oper} {rest:List Oper} {o:Oper} {a:Act} {w w0:World} {Q:Exit→Act→World→Prop} {B:Nat} {L:List (Nat×Array Value×TypeId)}
theorem St.grown{w':World}{row:Option Nat}{base:Nat}(st:St B w0 L w)(hg:w.grownBy w' row)(hr:∀k,row=some k→base≤k)(hL:∀p∈L,p.1<base)(hB:B≤base):St B w0 L w' :=
 ⟨st.below.trans ⟨hg.os,hg.tape,hg.output,hg.size,fun k hk=>hg.block k (by have:=st.size;omega) (fun e=>by have:=hr k e.symm;omega)⟩,Nat.le_trans st.size hg.size,
  fun p hp=>⟨(st.rows p hp).1,by
   rw[hg.block p.1 (zAG (st.rows p hp).2) (fun e=>by have:=hr p.1 e.symm;have:=hL p hp;omega)];exact(st.rows p hp).2⟩,st.nodup⟩
theorem zCL{base:Nat}(st:St B w0 L w)(hL:∀p∈L,p.1<base)(hB:B≤base)(hgd:o.guard=none)(s x:Operand)(t:TypeId)
  (ho:o.op=.call {callee:=.builtin .append,args:=#[s,x],argTypes:=#[t,t]}) (e:TypeId) (z:Value) (size bytes:Nat) (ht:P.underlying t=some (.slice e))
  (hz:(P.info? e).bind (·.zero)=some z) (hsize:(P.info? e).map (·.size)=some size) (hby:(P.info? e).map (·.bytes)=some bytes) (hzs:z.cells.size=size) (hsz:0<size)
  (v:Value) (n:Nat) (xs:List Value) (hs:a.eval s=v) (hown:w.ownsRow base e size v n xs)
  (b m c:Nat) (news:Array Value) (tt:TypeId) (hx:a.eval x=.slice (some ⟨b,0,none⟩) m c) (hl:news.size=m*size) (hb:w.heap[b]?=some (.cells news tt (0,0))) (h1:∀u∈news.toList,u.oneCell'=true)
  (h63:n+m≤maxLen) (hbytes:(n+m)*bytes≤140737488355328) (hbase:base≤w.heap.size)
  (h:∀v' w1,St B w0 L w1→w1.ownsRow base e size v' (n+m) (xs++news.toList)→(v'=.slice none 0 0↔v=.slice none 0 0∧m=0)→base≤w1.heap.size→wpList P ops Q rest (a.put o.dst v') w1):wpList P ops Q (o::rest) a w:=by
 cases hq:P.info? e with
 |none=>simp[hq] at hz
 |some i =>
  refine wpList_append_own w hgd s x t ho base e i z size bytes ht hq (by simpa[hq] using hz) (by simpa[hq] using hsize) (by simpa[hq] using hby) hzs hsz v n xs hs hown ⟨b,0,none⟩ m c news.toList hx (by simpa using hl) (fun j u hu=>?_) h1 h63 hbytes hbase (fun v' w' g1 g2 g3=>?_)
  ·have hadd:(⟨b,0,none⟩:Addr).add j=⟨b,j,none⟩:=by unfold Addr.add;split<;>simp_all
   rw[hadd,cell_of_row w b j news tt (0,0) hb,←Array.getElem?_toList];exact hu
  ·exact h v' w' (st.grown g2 (fun k hk=>(hown.lt k hk).1) hL hB) g1 g3 (Nat.le_trans hbase g2.size)
theorem zAR(st:St B w0 L w)(hgd:Region.wanted o (yielded ops a.tmps)=true)(t:TypeId)(len:Nat)(parts:Array (Nat×Operand))(ho:o.op=.buildSlice t len parts)(e:TypeId)(ht:P.underlying t=some (.slice e))(z:Value)(size:Nat)
  (hz:(P.info? e).bind (·.zero)=some z) (hsize:(P.info? e).map (·.size)=some size) (hlim:len*size≤16777216) (hpos:0<len*size) (ps:List (Nat×Value)) (hp:(parts.map fun (i,x)=>(i,a.eval x)).toList=ps) (cs:Array Value)
  (hf:Instr.fill (fun i=>some (i*size,size)) ((Array.range (len*size)).map (z.cells[·%z.cells.size]!)) ps=some cs)
  (h:∀b w1,St B w0 ((b,cs,e)::L) w1→Below w.heap.size w w1→wpList P ops Q rest (a.put o.dst (.slice (some ⟨b,0,none⟩) len len)) w1):wpList P ops Q (o::rest) a w:=by
 refine zCP hgd fun K hK=>?_
 cases hq:P.info? e with
 |none=>simp[hq] at hz
 |some i =>
  have hi:i.zero=some z:=by simpa[hq] using hz
  have hs:i.size=size:=by simpa[hq] using hsize
  subst hs;subst hp;have hrun:(Instr.buildSlice t len (parts.map fun (i,x)=>(i,a.eval x))).run P w=.ok (.slice (some ⟨w.heap.size,0,none⟩) len len) (w.alloc (.cells cs e)):=by
   have n1:¬len*i.size>2^24:=by omega
   have n2:¬len*i.size=0:=by omega
   simp only[Instr.buildSlice,Sem.run_bind,run_underlying ht,Result.andThen_ok,sizeOf,typeInfo,run_program,hq,Sem.run_pure,n1,n2,if_false,zeroValue,hi,hf,newRow,run_newObj];rfl
  unfold Oper.wp execOp;simp only[ho,Sem.run_bind,hrun,Result.andThen_ok,Sem.run_pure,Oper.upon];exact hK _ _ (h _ _ (st.new cs e) ((Below.refl _ _).alloc (Nat.le_refl _) _))
end
end
section
open Go Go.RowKit
theorem builtBm0:Tryz.prog.built 105 []=some (kv zAH):=by kernel_rfl
theorem builtKey0:Tryz.prog.built 37 []=some (kv zAH):=by kernel_rfl
end
section
set_option maxHeartbeats 1000000
open Go Go.RowKit
structure LastInv (b:List Nat)(L:Int)(r:List Nat):Prop where
 key:Key r
 lo : -1≤L
 hi:L<256
 top:0≤L→zBO b L.toNat=1
 bit:∀j<256,zBO r j=if (j:Int)≤L then 0 else zBO b j
theorem lastInv_start{b:List Nat}(h:Key b):LastInv b (-1) b:=⟨h,by decide,by decide,fun h=>absurd h (by decide),fun j _=>by rw[if_neg (by omega)]⟩
theorem lastInv_end{b r:List Nat}{L:Int}(h:LastInv b L r)(hz:r=zAH):lastI b=L :=
 lastI_unique ⟨h.lo,by have:=h.hi;omega,h.top,fun j h1 h2=>by
  have:=h.bit j h2;rw[if_neg (by omega),hz,zero_bit] at this;exact this.symm⟩
theorem lastInv_step{b r:List Nat}{L:Int}(h:LastInv b L r)(hz:r≠zAH) :
  zEX r zAH<256∧L<(zEX r zAH:Nat)∧LastInv b (zEX r zAH:Nat) (andI r (zEX r zAH:Nat)):=by
 have hc:zEX r zAH<256:=by
  have:=comN_le r zAH;rcases Nat.lt_or_ge (zEX r zAH) 256 with h1 | h1
  ·exact h1
  ·exact absurd ((comN_256 h.key zIO).1 (by omega)) hz
 have hd:=zJD r zAH hc;rw[zero_bit] at hd;have h1:=h.bit _ hc;have h2:¬((zEX r zAH:Nat):Int)≤L:=fun hle=>hd (by rw[h1,if_pos hle])
 rw[if_neg h2] at h1;have hlt:=zCQ b (zEX r zAH);refine⟨hc,by omega,h.key.and _,by omega,by omega,fun _=>?_,fun j hj=>?_⟩
 ·rw[Int.toNat_natCast];omega
 ·rw[andI_bit h.key _ j hj]
  by_cases hjc:(j:Int)=(zEX r zAH:Nat)
  ·rw[if_pos hjc,if_pos (by omega)]
  ·rw[if_neg hjc]
   by_cases hlt2:j<zEX r zAH
   ·rw[if_pos (by omega),comN_same r zAH j hlt2,zero_bit]
   ·rw[if_neg (by omega),h.bit j hj,if_neg (by omega)]
theorem Last_calls(b:List Nat)(hk:Key b)(w:World) :
  Calls Tryz.prog 110 #[.agg (kv b)] w fun e w'=>e=.returned (.int .i64 (lastI b))∧Below w.heap.size w w':=by
 have HK:=Lib.hid hk;have hlen:Hid (b.length=32):=hk.len;have hlz:Hid (zAH.length=32):=zIO.len;have hg:=guardBm;clear hk;have st:=St.init w;go_enter Tryz.func110,Tryz.ntmps110
 go_wp2_with (first | (refine zAD (by assumption) rfl 105 _ rfl _ rfl ?_;intro b1 w1 st1;clear st) | (refine zAE st1 rfl 105 rfl _ zeroBm ?_;intro b2 w2 st2;clear st1) | (refine zAC rfl 105 _ rfl b1 rfl _ aggBm rfl _ _ (St.at (by assumption) (i:=0) rfl) (zEO hlen.out) ?_) | (refine zAA st2 rfl 105 _ _ rfl 0 b2 rfl _ rfl _ _ rfl (zEO hlen.out) (by show (kv b).size=_;rw[zAF,hlen.out,zAF,hlz.out]) (zBJ _) _ rfl ?_;intro w3 st3;clear st2))
 simp only[List.set_cons_zero] at st3
 go_loopw [3,4] (fun last p wr=>∃(L:Int) (r:List Nat) (bp:Nat),last=.int .i64 L∧p=.pointer (some ⟨bp,0,none⟩)∧Hid (LastInv b L r)∧St w.heap.size w [(bp,kv r,105),(b1,kv b,105)] wr) (fun last _ _=>(255 - intOf last).toNat)
 case atStart=>exact⟨-1,b,b2,rfl,rfl,lastInv_start HK.out,st3⟩
 case round =>
  obtain⟨L,r,bp,rfl,rfl,hinv,st4⟩:=hrel;clear st3;have hlr:Hid (r.length=32):=hinv.out.key.len
  by_cases hz:r=zAH
  ·have e:Hid (lastI b=L):=lastInv_end hinv.out hz
   have hq:∀w,(Op.equalIn 10000 105 (.agg (kv r)) (.agg (kv zAH))).run Tryz.prog w=.ok true w:=fun w=>by rw[eqlBm r zAH hlr.out hlz.out w];simp[hz]
   clear hinv hz
   go_wp2_with (first | (refine zAC rfl 105 _ rfl bp rfl _ aggBm rfl _ _ (St.at (by assumption) (i:=0) rfl) (zEO hlr.out) ?_) | (refine zAM rfl 105 _ rfl [] ?_ _ builtBm0 ?_;· (simp;done)))
   go_ret;exact⟨ret_int e.out.symm,st4.below⟩
  ·obtain⟨hc,hLc,hnext⟩:=lastInv_step hinv.out hz
   have Hnext:=Lib.hid hnext;have hq:∀w,(Op.equalIn 10000 105 (.agg (kv r)) (.agg (kv zAH))).run Tryz.prog w=.ok false w:=fun w=>by rw[eqlBm r zAH hlr.out hlz.out w];simp[hz]
   have HC:=Lib.hid (Common_calls r zAH hinv.out.key zIO);have HW:=Lib.hid (Without_calls r hinv.out.key (zEX r zAH:Nat));have hl3:Hid ((andI r (zEX r zAH:Nat)).length=32):=hnext.key.len;have hL0:=hinv.out.lo;have hc':((zEX r zAH:Nat):Int)<256:=by omega
   clear hinv hz hnext hc;generalize andI r (zEX r zAH:Nat)=r' at *;generalize ((zEX r zAH:Nat):Int)=C at *
   go_wp2_with (first | (refine zAC rfl 105 _ rfl bp rfl _ aggBm rfl _ _ (St.at (by assumption) (i:=0) rfl) (zEO hlr.out) ?_) | (refine zAM rfl 105 _ rfl [] ?_ _ builtBm0 ?_;· (simp;done)) | (refine zAM rfl 37 _ rfl [] ?_ _ builtKey0 ?_;· (simp;done)) | (go_at_call 148;refine(HC.out _).mono ?_;rintro e wn ⟨rfl,hbel⟩;have stn:=St.call (by assumption) hbel;clear hbel) | (refine zAE stn rfl 105 rfl _ zeroBm ?_;intro b5 w5 st5) | (refine zAA st5 rfl 105 _ _ rfl 0 b5 rfl _ rfl _ _ rfl (zEO hlr.out) (by show (kv r).size=_;rw[zAF,hlr.out,zAF,hlz.out]) (zBJ _) _ rfl ?_;intro w6 st6;clear st5) | (refine zAC rfl 105 _ rfl b5 rfl _ aggBm rfl _ _ (St.at (by assumption) (i:=0) rfl) (zEO hlr.out) ?_) | (go_at_call 147;refine(HW.out _).mono ?_;rintro e w7 ⟨rfl,hbel⟩;have st7:=st6.call hbel;clear st6 hbel) | (refine zAA st7 rfl 105 _ _ rfl 0 b5 rfl _ rfl _ _ rfl (zEO hl3.out) (by show (kv r').size=(kv r).size;rw[zAF,hl3.out,zAF,hlr.out]) (zBJ _) _ rfl ?_;intro w8 st8;clear st7))
   have st9:St w.heap.size w [(b5,kv r',105),(b1,kv b,105)] w8:=by
    refine⟨st8.below,st8.size,fun p hp=>st8.rows p ?_,?_⟩
    ·simp only[List.mem_cons,List.not_mem_nil,or_false] at hp
     rcases hp with rfl | rfl
     ·exact List.mem_cons_self
     ·exact List.mem_cons_of_mem _ (List.mem_cons_of_mem _ List.mem_cons_self)
    ·have hn:=st8.nodup
     simp only[List.set_cons_zero,List.map_cons,List.map_nil,List.nodup_cons,List.mem_cons,List.not_mem_nil,or_false,not_or] at hn ⊢;exact⟨hn.1.2,by simp,by simp⟩
   simp only[Act.put];go_roundw
   case rel=>exact⟨C,r',b5,rfl,rfl,Hnext.out,st9⟩
   case measure=>simp[intOf];omega
end
section
set_option maxHeartbeats 1000000
open Go Go.RowKit
def setK(b:List Nat)(k:Nat):List Int:=((List.range k).filter fun i=>zBO b i==1).map fun (n:Nat)=>(n:Int)
theorem setK_all(b:List Nat):setK b 256=setI b:=rfl
theorem setK_len(b:List Nat)(k:Nat):(setK b k).length≤k:=by
 unfold setK;rw[List.length_map]
 have:=List.length_filter_le (fun i=>zBO b i==1) (List.range k)
 simpa using this
theorem setK_yes(b:List Nat)(k:Nat)(h:zBO b k=1):setK b (k+1)=setK b k++[(k:Int)]:=by
 unfold setK;rw[List.range_succ,List.filter_append,List.map_append];simp[h]
theorem setK_no(b:List Nat)(k:Nat)(h:¬zBO b k=1):setK b (k+1)=setK b k:=by
 unfold setK;rw[List.range_succ,List.filter_append,List.map_append];simp[h]
def icells(l:List Int):List Value:=l.map fun x=>Value.int .i64 x
theorem icells_app(l m:List Int):icells (l++m)=icells l++icells m:=by simp[icells]
theorem iv_toList(l:List Int):(iv l).toList=icells l:=rfl
theorem iv_one(l:List Int):∀u∈(iv l).toList,u.oneCell'=true:=by
 intro u hu;rw[iv_toList] at hu;obtain⟨n,_,rfl⟩:=List.mem_map.1 hu;rfl
def IsList(w w':World)(l:List Int)(e:Ending):Prop:=∃v,e=.returned v∧Rd w' v l∧Below w.heap.size w w'∧∀k,v.ownBlock=some k→w.heap.size≤k
theorem fill1(x:Int):Instr.fill (fun i=>some (i*1,1)) ((Array.range (1*1)).map ((Value.int .i64 0).cells[·%(Value.int .i64 0).cells.size]!)) [(0,.int .i64 x)]=some (iv [x]):=by kernel_rfl
theorem List_calls(b:List Nat)(hk:Key b)(w:World) :
  Calls Tryz.prog 134 #[.agg (kv b)] w fun e w'=>IsList w w' (setI b) e:=by
 have HK:=Lib.hid hk;have hlen:Hid (b.length=32):=hk.len;clear hk;have st:=St.init w;go_enter Tryz.func134,Tryz.ntmps134
 go_wp2_with (first | (refine zAD (by assumption) rfl 105 _ rfl _ rfl ?_;intro b1 w1 st1;clear st))
 go_loopw [3,5] (fun out i wr=>∃k:Int,0≤k∧k≤256∧i=.int .i64 k∧St w.heap.size w [(b1,kv b,105)] wr∧wr.ownsRow (b1+1) 3 1 out (setK b k.toNat).length (icells (setK b k.toNat))) (fun _ i _=>(256 - intOf i).toNat)
 case atStart=>exact⟨0,by omega,by omega,rfl,st1,World.ownsRow_nil _ _ _ _⟩
 case round =>
  obtain⟨k,k0,k1,rfl,st3,hown⟩:=hrel;clear st1;have Hown:=Lib.hid hown;clear hown;have hbase:b1+1≤wr.heap.size:=zAG (st3.at (i:=0) rfl);have Hbase:=Lib.hid hbase;clear hbase;have hab:=st3.above (i:=0) rfl;have Hab:=Lib.hid hab;clear hab
  by_cases hlt:k<256
  ·have hsl:=setK_len b k.toNat
   have Hsl:=Lib.hid hsl;clear hsl
   by_cases hb:zBO b k.toNat=1
   ·have HH:=Lib.hid (HasT b HK.out k true (by rw[bitI_lt ⟨k0,hlt⟩,hb];rfl))
    have hnext:=setK_yes b k.toNat hb;rw[show ((k.toNat:Nat):Int)=k by omega,show k.toNat+1=(k+1).toNat by omega] at hnext;have Hnext:=Lib.hid hnext;clear hnext hb
    go_wp2_with (first | (refine zAC rfl 105 _ rfl b1 rfl _ aggBm rfl _ _ (St.at (by assumption) (i:=0) rfl) (zEO hlen.out) ?_) | (go_at_call 80;refine(HH.out _).mono ?_;rintro e w4 ⟨rfl,hbel⟩;have st4:=st3.call hbel;have hown4:=Lib.hid (zAY Hown.out hbel);have hb4:=Lib.hid (Nat.le_trans Hbase.out hbel.size);clear st3 Hown Hbase hbel) | (refine zAR st4 rfl 250 1 _ rfl 3 sliceInt _ 1 zeroInt sizeInt (by decide) (by decide) [(0,.int .i64 k)] ?_ _ (fill1 k) ?_;· (simp[Act.eval];done)))
    intro b5 w5 st5 hb5;have hown5:=Lib.hid (zAY hown4.out hb5);have hbase5:=Lib.hid (Nat.le_trans hb4.out hb5.size);refine zCL (base:=b1+1) st5.drop (fun p hp=>by simp at hp;subst hp;exact Nat.lt_succ_self _) (by have:=Hab.out;omega) rfl _ _ 250 rfl 3 _ 1 8 sliceInt zeroInt sizeInt bytesInt rfl (by decide) _ _ _ rfl hown5.out b5 1 1 (iv [k]) 3 rfl rfl (st5.at (i:=0) rfl) (iv_one _) ?_ ?_ hbase5.out ?_
    ·have:=Hsl.out;unfold maxLen;omega
    ·have:=Hsl.out;omega
    intro v' w6 st6 hown6 _ _;clear hown4 hown5 hb4 hbase5 st4 st5 hb5;have e1:(setK b k.toNat).length+1=(setK b (k+1).toNat).length:=by rw[Hnext.out,List.length_append];rfl
    have e2:icells (setK b k.toNat)++(iv [k]).toList=icells (setK b (k+1).toNat):=by rw[Hnext.out,icells_app];rfl
    rw[e1,e2] at hown6;have Hown6:=Lib.hid hown6;clear hown6 e1 e2;go_wp2;go_roundw
    case rel=>exact⟨k+1,by omega,by omega,rfl,st6,Hown6.out⟩
    case measure=>simp[intOf];omega
   ·have HH:=Lib.hid (HasT b HK.out k false (by rw[bitI_lt ⟨k0,hlt⟩];have:=zCQ b k.toNat;rw[beq_eq_false_iff_ne];omega))
    have hnext:=setK_no b k.toNat hb;rw[show k.toNat+1=(k+1).toNat by omega] at hnext;have Hnext:=Lib.hid hnext;clear hnext hb
    go_wp2_with (first | (refine zAC rfl 105 _ rfl b1 rfl _ aggBm rfl _ _ (St.at (by assumption) (i:=0) rfl) (zEO hlen.out) ?_) | (go_at_call 80;refine(HH.out _).mono ?_;rintro e w4 ⟨rfl,hbel⟩;have st4:=st3.call hbel;have hown4:=Lib.hid (zAY Hown.out hbel);clear st3 Hown Hbase hbel))
    go_roundw
    case rel=>exact⟨k+1,by omega,by omega,rfl,st4,by rw[Hnext.out];exact hown4.out⟩
    case measure=>simp[intOf];omega
  ·have e:k.toNat=256:=by omega
   have h1:=Hown.out;rw[e,setK_all] at h1;have H1:=Lib.hid h1;have hsl:Hid ((setI b).length≤256):=setK_len b 256;clear h1 Hown e;go_wp2;go_ret;exact⟨u3,rfl,Rd.of_own rfl H1.out (by have:=hsl.out;unfold maxLen;omega),st3.below,fun k hk=>Nat.le_trans Hab.out (Nat.le_of_succ_le (H1.out.lt k hk).1)⟩
end
end Go.Proofs.YtlcngapphloafaaGreatDoor
