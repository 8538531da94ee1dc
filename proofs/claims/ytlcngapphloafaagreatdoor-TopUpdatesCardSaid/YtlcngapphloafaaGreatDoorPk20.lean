/- Parts of the proof that are used by the claim: InRound, BackD, Joint, Steps, Root, Ver1. No condition is added here. -/
import Derived.Test.YtlcngapphloafaaGreatDoorPk19
import Derived.RangeFuncNested
import Derived.OrdersIn
namespace Go.Proofs.YtlcngapphloafaaGreatDoor
section
open Go Go.RowKit
attribute [local irreducible] Inv.wpInv Mix.wpUp
section
variable {P:Program} {ops:Array Oper} {md:Region.Mode} {Q:Exit→Act→World→Prop} {a:Act} {w:World}
def noDefer(o:Oper):Bool:=match o.op with
 |.defer _=>false
 |_=>true
theorem noDefer_spec{o:Oper}(h:noDefer o=true):∀c,o.op≠.defer c:=fun c e=>by unfold noDefer at h;rw[e] at h;cases h
theorem opIn_of_op{l n:Nat}{o:Oper}{K:Act→World→Prop}(hd:noDefer o=true)(h:o.wp P a w K Q):o.wpIn (Fence.wide.inRound l) n P a w K Q:=by
 unfold Oper.wpIn;refine⟨fun _ _=>trivial,?_⟩
 show o.uponIn (Fence.wide.inRound l) n P a K Q ((o.semAt (some l) a.eval).run P w)
 rw[Oper.semAt_some l a.eval o (noDefer_spec hd)];unfold Oper.wp at h;generalize (execOp a.eval o).run P w=r at *
 cases r with
 |ok x w' =>
  cases x<;>simp only[Oper.upon] at h<;>simp only[Oper.uponIn]
  case value v=>exact h
  case skip=>exact h
  case defer d=>exact h
  case enter f args =>
   refine⟨fun h=>(by simp[Fence.inRound,Fence.wide] at h),?_⟩;exact callsIn_wide.2 h
  case row row args =>
   refine⟨fun h=>(by simp[Fence.inRound,Fence.wide] at h),?_⟩;exact fun c cs _=>let ⟨v,w'',r,s⟩:=h c cs;⟨v,w'',r,stepsIn_wide.2 s⟩
 |halt x w' =>
  cases x<;>simp only[Oper.upon] at h<;>simp only[Oper.uponIn]
  case panic v=>exact h
theorem opIn_wide{n:Nat}{o:Oper}{K:Act→World→Prop}(h:o.wp P a w K Q):o.wpIn Fence.wide n P a w K Q:=by
 unfold Oper.wpIn;refine⟨fun _ _=>trivial,?_⟩
 show o.uponIn Fence.wide n P a K Q ((o.semAt none a.eval).run P w)
 rw[Oper.semAt_none];unfold Oper.wp at h;generalize (execOp a.eval o).run P w=r at *
 cases r with
 |ok x w' =>
  cases x<;>simp only[Oper.upon] at h<;>simp only[Oper.uponIn]
  case value v=>exact h
  case skip=>exact h
  case defer d=>exact h
  case enter f args=>exact⟨fun h=>(by simp[Fence.wide] at h),callsIn_wide.2 h⟩
  case row row args=>exact⟨fun h=>(by simp[Fence.wide] at h),fun c cs _=>let ⟨v,w'',r,s⟩:=h c cs;⟨v,w'',r,stepsIn_wide.2 s⟩⟩
 |halt x w' =>
  cases x<;>simp only[Oper.upon] at h<;>simp only[Oper.uponIn]
  case panic v=>exact h
theorem wpListIn_loadP{n:Nat}{rest:List Oper}{o:Oper}(hgd:Region.wanted o (yielded ops a.tmps)=true)(ty:TypeId)(x:Operand)(ho:o.op=.load ty x)
  (g off m:Nat) (hx:a.eval x=.pointer (some ⟨g,off,none⟩)) (hagg:∃d,P.underlying ty=some d∧zGJ d=true) (cs:Array Value) (t:TypeId) (fr:Nat×Nat)
  (hg:w.heap[g]?=some (.cells cs t fr)) (hi:(P.info? ty).map (·.size)=some m) (hle:off+m≤cs.size) (res:Array Value) (hres:cs.extract off (off+m)=res)
  (h:wpListIn Fence.wide n P ops Q rest (a.put o.dst (.agg res)) w):wpListIn Fence.wide n P ops Q (o::rest) a w:=by
 obtain⟨d,hu,hd⟩:=hagg;subst hres;simp only[wpListIn];rw[if_pos hgd];refine opIn_wide ?_;unfold Oper.wp execOp;have hl:=zDD (P:=P) w g off m t ty cs fr d hg hu hd hi hle;simp only[ho,hx,Instr.loadAt,Instr.sureAddr,Sem.run_bind,Sem.run_pure,Result.andThen_ok,hl,Oper.upon];exact h
theorem listIn_of_list{l n:Nat}(hQ:¬LetsOut Q):∀(r:List Oper)(a:Act) (w:World),r.all noDefer=true→wpList P ops Q r a w→wpListIn (Fence.wide.inRound l) n P ops Q r a w
 |[],_,_,_,h=>h
 |o::r,a,w,hd,h=>by
  simp only[List.all_cons,Bool.and_eq_true] at hd;simp only[wpList] at h;simp only[wpListIn]
  split
  ·rename_i hw
   rw[if_pos hw] at h;rcases h with h | h
   ·exact opIn_of_op hd.1 (Oper.wp_mono (fun a' w' h'=>listIn_of_list hQ r a' w' hd.2 h') h)
   ·exact absurd h.2 hQ
  ·rename_i hw
   rw[if_neg hw] at h;exact⟨fun _ _=>trivial,listIn_of_list hQ r _ w hd.2 h⟩
theorem anyIn_of_any{l n:Nat}(hQ:¬LetsOut Q)(hd:∀(i:Nat)(o:Oper),ops[i]?=some o→noDefer o=true):∀(f:Nat)(listed:Array Bool) (a:Act) (w:World),wpAny P md ops Q f listed a w→wpAnyIn (Fence.wide.inRound l) n P md ops Q f listed a w
 |0,_,_,_,h=>h
 |f+1,listed,a,w,h=>by
  refine⟨h.1,fun i hi=>?_⟩;have h2:=h.2 i hi;unfold wpOp at h2;unfold wpOpIn
  split
  ·rename_i ho;simp only[ho] at h2;exact anyIn_of_any hQ hd f _ _ _ h2
  ·rename_i o ho
   simp only[ho] at h2
   split
   ·rename_i hw
    rw[if_pos hw] at h2;rcases h2 with h2 | h2
    ·exact opIn_of_op (hd i o ho) (Oper.wp_mono (fun a' w' h'=>anyIn_of_any hQ hd f _ a' w' h') h2)
    ·exact absurd h2.2 hQ
   ·rename_i hw
    rw[if_neg hw] at h2;exact⟨fun _ _=>trivial,anyIn_of_any hQ hd f _ _ _ h2⟩
theorem zEJ{r n id:Nat}{l:List Oper}(hQ:¬LetsOut Q)(hd:l.all noDefer=true)(h:wpList P l.toArray Q l a w):(Code.region id l.toArray false).wpIn (Fence.wide.inRound r) n P Q a w :=
 wpIn_region_lit (listIn_of_list hQ l a w hd h)
theorem regionIn_mix2{r m id:Nat}{J:World→Prop}{l:List Oper}(n:Nat)(I:World→Prop)(hQ:¬LetsOut Q)(hd':l.all noDefer=true)(hm:P.follows .mixedOrders=true)(hB:Mix.mixB l.toArray n=true)
  (hd:I {w with drawn:=w.drawn+1})
  (h:Mix2.Form .any l.toArray n (Mix2.Leaf P l.toArray l n Q)→HeadInv .any l.toArray n (Array.replicate l.toArray.size false)→Mix2.Good J P .any l.toArray n (Mix2.Leaf P l.toArray l n Q) n I (Array.replicate l.toArray.size false) a):(Code.region id l.toArray true).wpIn (Fence.wide.inRound r) m P Q a w:=by
 simp only[Mix.mixB,Bool.and_eq_true,Bool.or_eq_true,decide_eq_true_eq] at hB;obtain⟨hsel,hn⟩:=hB;have hn':n≤l.length:=by
  rcases hn with hn | ⟨⟨hn,_⟩,_⟩
  ·simpa using Nat.le_of_eq hn
  ·have:n<l.length:=by simpa using hn
   omega
 have hdl:(l.drop n).length=l.toArray.size - n:=by simp
 have inv0:HeadInv .any l.toArray n (Array.replicate l.toArray.size false) :=
  ⟨by simp,fun j oj _ hl=>(by rw[getD_replicate_false] at hl;cases hl),fun t _ ht=>getD_in (by simpa using ht) (getD_replicate_false _ _)⟩
 have F:Mix2.Form .any l.toArray n (Mix2.Leaf P l.toArray l n Q):=by
  refine⟨hsel,fun listed inv i hi hun t ht hr=>?_,fun I listed a hL=>seqB_ready hL.1⟩;rcases hn with hn | ⟨⟨hn,hs⟩,hc⟩
  ·obtain⟨_,ot,hot,_⟩:=mem_ready.1 hr
   have:=(Array.getElem?_eq_some_iff.1 hot).1;omega
  ·exact tail_waits hs hc hn inv _ i rfl hi hun t ht hr
 refine wpIn_region_any hm ?_
 have:=Mix2.wpAny_of_good (Q':=Q) (g:=l.toArray.size - n) (fun I listed a' w' hI hL=>by
  have:=wpAny_of_seq (md:=.any) (Q':=Q) (l.drop n) n listed a' w' (fun j=>by simp[List.getElem?_drop]) (by rw[hdl];exact hL.1) (hL.2 w' hI)
  rwa [hdl] at this) _ _ _ _ _ hd (h F inv0)
 rw[show n+(l.toArray.size - n)=l.toArray.size by omega] at this;exact anyIn_of_any hQ (fun i o ho=>List.all_eq_true.1 hd' o (List.mem_of_getElem? (by simpa using ho))) _ _ _ _ this
end
theorem zFV{F:Fence}{n:Nat}{P:Program}{g:Operand}{ps:Array Tmp}{assign body:Code}{Q:Exit→Act→World→Prop}{a:Act}{w:World}
  (hro:F.round=none) (h1:1≤n) {gf:Nat} {lb:Array Value} (hg:a.eval g=.func (.func gf) #[] lb) (hFg:F.fn gf) (eg:∀args w,(callFunc gf args).run P w=.ok (.enter gf args) w)
  (hcall:∀(rd bs:Loop)(W1:World),W1=(w.alloc (.deferred (some []))).alloc (.loop rd) →
   (∀(args:Array Value)(W:World) (R:World→Prop),args.size=ps.size→W.heap[w.heap.size+1]?=some (.loop rd) →
    assign.wpIn (F.inRound (w.heap.size+1)) (n - 1 - 1) P (Exit.then (fun a1 w1=>w1.heap[w.heap.size+1]?=some (.loop rd) ∧
     body.wpIn (F.inRound (w.heap.size+1)) (n - 1 - 1) P (fun e _ W'=>e=.normal∧W'.heap[w.heap.size+1]?=some (.loop bs)∧R (W'.putObj (w.heap.size+1) (.loop rd))) a1 (w1.putObj (w.heap.size+1) (.loop bs))) (fun _ _ _=>False))
     {tmps:=(ps.zip args).foldl (fun t (p,v)=>t.setIfInBounds p v) a.tmps,defers:=[]} W →
    YieldAt F (n - 1 - 1) P (w.heap.size+1) args W (fun e W'=>e=.returned (.bool true)∧R W')) →
   CallsIn F (n - 1) P gf (#[.func (.yield (w.heap.size+1)) #[] #[]]++lb) W1 (fun e W'=>(∃v,e=.returned v)∧W'.heap[w.heap.size+1]?=some (.loop rd) ∧
    ∀o:Loop,Q .normal {a with defers:={target:=.collected w.heap.size,args:=#[]}::a.defers} (W'.putObj (w.heap.size+1) (.loop o)))) :
  (Code.rangeFunc g ps assign body).wpIn F n P Q a w:=by
 refine wpIn_rangeFunc fun fn hfn=>?_
 rw[hro]
 let rd:Loop:={state:=.ready,pending:=none,fn,tmps:=a.tmps,params:=ps,assign,body,defers:=w.heap.size}
 refine⟨w.heap.size+1,[{target:=.collected w.heap.size,args:=#[]}],(w.alloc (.deferred (some []))).alloc (.loop rd),{target:=.fn (.func gf) lb,args:=#[.func (.yield (w.heap.size+1)) #[] #[]]},
  (w.alloc (.deferred (some []))).alloc (.loop rd),gf,#[.func (.yield (w.heap.size+1)) #[] #[]]++lb,(w.alloc (.deferred (some []))).alloc (.loop rd),run_enterLoop_outer _ _ _ _ _,?_,?_,?_,fun _=>h1,?_⟩
 ·simp only[resolve,hg]
  simp[go_sem]
 ·intro f' hf'
  simp[Target.leads] at hf';subst hf';exact hFg
 ·simp[invoke,go_sem,eg]
 ·refine(hcall rd {rd with state:=.busy} _ rfl ?_).mono ?_
  ·intro args W R hs hl h
   refine⟨fn,_,assign,body,run_yield (r:=rd) hl hs,roundIn_of_wpIn hfn (wpIn_mono h ?_)⟩;rintro e a1 w1 hp
   cases e with
   |normal =>
    obtain⟨hl1,hb⟩:=hp;refine⟨_,run_beginRound hl1 rfl,wpIn_mono hb ?_⟩;rintro e a2 w2 ⟨rfl,hl2,hR⟩;exact⟨_,_,run_endRound none hl2,rfl,hR⟩
   |_=>exact hp.elim
  ·rintro e W2 ⟨⟨v,rfl⟩,hl,hq⟩
   exact⟨none,_,run_endLoop hl (by simp[rd]),hq _⟩
theorem StH.sumNew{w wx w2:World}{hb cb:Nat}{bits n m m':Int}{L:List (Nat×Array Value×TypeId)}{g:Nat}{cs:Array Value}{t:TypeId}(st:StH w cb m L wx)(hh:HasH hb cb bits n w)(hg:wx.grownBy w2 (some cb))(h2:HasH hb cb bits m' w2)(hle:wx.heap.size≤g)(hrow:w2.heap[g]?=some (.cells cs t (0,0))):StH w cb m' ((g,cs,t)::L) w2:=by
 have st':=StH.sum st hh hg h2;refine⟨st'.below,st'.size,fun p hp=>?_,?_⟩
 ·rcases List.mem_cons.1 hp with rfl | hp
  ·exact⟨Nat.le_trans st.size hle,hrow⟩
  ·exact st'.rows p hp
 ·rw[List.map_cons,List.nodup_cons]
  refine⟨fun hm=>?_,st'.nodup⟩;obtain⟨p,hp,he⟩:=List.mem_map.1 hm;have h:=zAG (st.rows p hp).2;simp only at he;omega
end
section
set_option maxHeartbeats 2000000
open Go Go.RowKit
attribute [local go_sem] Oper.semAt_some
set_option maxRecDepth 20000 in
theorem BackD_calls(a:Option Addr)(n c:Nat)(w:World) :
  Calls Tryz.prog 137 #[.slice a n c] w fun e w'=>∃Bs,e=.returned (.func (.func 166) #[] #[.pointer (some ⟨Bs,0,none⟩)]) ∧
   St w.heap.size w [(Bs,#[.slice a n c],41)] w':=by
 have st:=St.init w;go_enter Tryz.func137,Tryz.ntmps137
 go_wp2_with (first
  |(refine zCO st rfl 41 _ rfl (.slice a n c) rfl ?_;intro b1 w1 st1;clear st))
 go_ret;exact⟨_,rfl,st1⟩
def digAt(X:List Nat)(i:Nat):List Nat:=(X.drop (32*i)).take 32
set_option maxRecDepth 100000 in
theorem backD_in(n l Bs g m:Nat)(X:List Nat)(t:TypeId)(hX:X.length=32*m)(hm:m≤256)(S:Nat→World→Prop)
  (hcell:∀j W,S j W→W.cell? ⟨Bs,0,none⟩=some (.slice (some ⟨g,0,none⟩) m m)) (hrow:∀j W,S j W→W.heap[g]?=some (.cells (kv X) t (0,0)))
  (hY:∀j W,j<m→S j W→YieldAt Fence.wide (n - 1) Tryz.prog l #[.int .i64 ((m - 1 - j:Nat):Int),.agg (kv (digAt X (m - 1 - j)))] W (fun e W'=>e=.returned (.bool true)∧S (j+1) W'))
  (W:World) (h0:S 0 W) :
  CallsIn Fence.wide n Tryz.prog 166 #[.func (.yield l) #[] #[],.pointer (some ⟨Bs,0,none⟩)] W (fun e W'=>(∃v,e=.returned v)∧S m W'):=by
 have hc:=hcell 0 W h0;refine callsIn_of_wp Tryz.func166 rfl trivial ?_ rfl;simp only[Tryz.ntmps166,List.size_toArray,List.length_cons,List.length_nil,Nat.reduceAdd,Nat.reduceSub,Array.replicate_succ,Array.replicate_zero,List.push_toArray,List.append_toArray,List.nil_append,List.cons_append]
 gi_wp2
 gi_loopw [3] (fun i wr=>∃j:Nat,j≤m∧i=.int .i64 ((m:Nat) - 1 - (j:Nat):Int)∧S j wr) (fun i _=>(intOf i+1).toNat)
 case atStart=>exact⟨0,by omega,by simp,h0⟩
 case round =>
  obtain⟨j,hj,rfl,hS⟩:=hrel;have hcs:=hcell j wr hS;have hrw:=hrow j wr hS
  by_cases hlt:j<m
  ·have h1:(0:Int)≤(m:Nat) - 1 - (j:Nat):=by omega
   have h2:((m:Nat) - 1 - (j:Nat):Int)<(m:Nat):=by omega
   have h3:((m:Nat) - 1 - (j:Nat):Int)=((m - 1 - j:Nat):Int):=by omega
   have Hlen:Hid ((m - 1 - j)*32+32≤(kv X).size):=by unfold Hid;rw[zAF,hX];omega
   have Hex:Hid ((kv X).extract ((m - 1 - j)*32) ((m - 1 - j)*32+32)=kv (digAt X (m - 1 - j))):=by
    unfold Hid;rw[zDY X _ 32 (by have:=Hlen.out;rwa [zAF] at this)];unfold digAt;rw[Nat.mul_comm]
   have hYj:=hY j wr hlt hS;obtain⟨fn,tmps,assign,body,hy,hR⟩:=hYj;generalize digAt X (m - 1 - j)=dg at *
   gi_wp2_with (first
    |(refine wpListIn_loadP rfl 38 _ rfl g ((m - 1 - j)*32) 32 rfl zFZ _ _ _ hrw zBV Hlen.out _ Hex.out ?_))
   refine And.intro (fun h=>by simp[Fence.wide] at h) (hR.mono ?_);rintro e W3 ⟨rfl,hS3⟩
   gi_wp2
   refine⟨⟨j+1,by omega,?_,hS3⟩,?_⟩
   ·congr 1;omega
   ·simp only[intOf];omega
  ·obtain rfl:j=m:=by omega
   have h1:((j:Nat) - 1 - (j:Nat):Int)<0:=by omega
   gi_wp2
   go_end0
   exact⟨⟨_,rfl⟩,hS⟩
def endF(kd:Int)(lf:List Nat):List Nat:=if kd==1 then 0::lf else [3]
theorem endF_len(kd:Int)(lf:List Nat)(hl:lf.length=64):(endF kd lf).length≤65:=by unfold endF;split<;>simp[hl]
theorem endF_lt(kd:Int)(lf:List Nat)(hl:∀x∈lf,x<256):∀x∈endF kd lf,x<256:=by
 intro x hx;unfold endF at hx
 split at hx
 ·rcases List.mem_cons.1 hx with rfl | hx
  ·decide
  ·exact hl x hx
 ·simp at hx;omega
set_option maxRecDepth 20000 in
theorem end_calls(kd dp:Int)(lf bm:List Nat)(s:Value)(hl:lf.length=64)(hb:bm.length=32)(w:World) :
  Calls Tryz.prog 136 #[.agg (zAB kd dp lf bm s)] w fun e w'=>∃v,e=.returned v∧RdB w' v (endF kd lf)∧Below w.heap.size w w':=by
 have H0:Hid ((zAB kd dp lf bm s)[0]?=some (.int .i64 kd)):=zEC;have HS:Hid ((zAB kd dp lf bm s).size=99):=zAO hl hb;have HE:=Lib.hid (zJB (kd:=kd) (dp:=dp) (bm:=bm) (s:=s) hl);have e:lf.take 32++lf.drop 32=lf:=List.take_append_drop 32 lf;have HL:=Lib.hid (fun wx=>Leaf_calls (lf.take 32) (lf.drop 32) (by simp;omega) (by simp;omega) wx);rw[e] at HL;have hF1:(kd==1)=true→endF kd lf=0::lf:=fun h=>by unfold endF;rw[if_pos h]
 have hF0:(kd==1)=false→endF kd lf=[3]:=fun h=>by unfold endF;rw[h];rfl
 generalize endF kd lf=R at *;generalize zAB kd dp lf bm s=pc at *;generalize kv lf=lv at *;clear e;have st:=St.init w
 cases hk1:(kd==1)
 ·obtain rfl:=hF0 hk1
  clear hF0 hF1;go_enter Tryz.func136,Tryz.ntmps136
  go_wp2_with (first
   |(refine zAD st rfl 43 _ rfl pc rfl ?_;intro b1 w1 st1;clear st;have hc:=(st1.cell (i:=0) rfl 0).trans H0.out)
   |(go_at_call 83;refine(Empty_calls _).mono ?_;rintro e w2 ⟨v2,rfl,hrd,hbel⟩;have st2:=St.call st1 hbel;clear hbel st1))
  go_ret;exact⟨_,rfl,hrd,st2.below⟩
 ·obtain rfl:=hF1 hk1
  clear hF0 hF1;go_enter Tryz.func136,Tryz.ntmps136
  go_wp2_with (first
   |(refine zAD st rfl 43 _ rfl pc rfl ?_;intro b1 w1 st1;clear st;have hc:=(st1.cell (i:=0) rfl 0).trans H0.out)
   |(refine zAP rfl 40 _ rfl b1 2 64 rfl aggLeaf _ _ _ (st1.at (i:=0) rfl) sizeLeaf0 (by rw[HS.out];simp) _ HE.out ?_)
   |(go_at_call 165;refine(HL.out _).mono ?_;rintro e w2 ⟨v2,rfl,hrd,hbel⟩;have st2:=St.call st1 hbel;clear hbel st1))
  go_ret;exact⟨_,rfl,hrd,st2.below⟩
set_option maxRecDepth 20000 in
theorem ways_calls(hb:Nat)(pc:Array Value)(a:Option Addr)(n c:Nat)(k:List Nat)(w:World) :
  Calls Tryz.prog 87 #[.pointer (some ⟨hb,0,none⟩),.agg pc,.slice a n c,.agg (kv k)] w fun e w'=>∃B4 B5 B6 B7,e=.returned (.func (.func 135) #[] #[.pointer (some ⟨B5,0,none⟩),.pointer (some ⟨B4,0,none⟩),.pointer (some ⟨B6,0,none⟩),.pointer (some ⟨B7,0,none⟩)]) ∧
   St w.heap.size w [(B7,kv k,37),(B6,#[.slice a n c],41),(B5,pc,43),(B4,#[.pointer (some ⟨hb,0,none⟩)],29)] w':=by
 have st:=St.init w;go_enter Tryz.func87,Tryz.ntmps87
 go_wp2_with (first
  |(refine zCO st rfl 29 _ rfl (.pointer (some ⟨hb,0,none⟩)) rfl ?_;intro b4 w1 st1;clear st)
  |(refine zAD st1 rfl 43 _ rfl pc rfl ?_;intro b5 w2 st2;clear st1)
  |(refine zCO st2 rfl 41 _ rfl (.slice a n c) rfl ?_;intro b6 w3 st3;clear st2)
  |(refine zAD st3 rfl 37 _ rfl (kv k) rfl ?_;intro b7 w4 st4;clear st3))
 go_ret;exact⟨b4,b5,b6,b7,rfl,st4⟩
end
section
open Go Go.RowKit
def KeepNC(l:Nat)(W W':World):Prop:=W.heap.size≤W'.heap.size∧∀x o,W.heap[x]?=some o→o.isCells=false→x≠l→W'.heap[x]?=some o
section
variable {B l b:Nat} {w0 W W' W2:World} {L:List (Nat×Array Value×TypeId)}
theorem KeepNC.refl(l:Nat)(W:World):KeepNC l W W:=⟨Nat.le_refl _,fun _ _ h _ _=>h⟩
theorem KeepNC.trans(h:KeepNC l W W')(k:KeepNC l W' W2):KeepNC l W W2:=⟨Nat.le_trans h.1 k.1,fun x o ho hn hx=>k.2 x o (h.2 x o ho hn hx) hn hx⟩
theorem KeepNC.below(h:Below W.heap.size W W'):KeepNC l W W':=⟨h.size,fun x _ ho _ _=>(h.block x (zAG ho)).trans ho⟩
theorem KeepNC.grown{row:Option Nat}(h:W.grownBy W' row)(hr:∀b,row=some b→b=l∨∃cs t fr,W.heap[b]?=some (.cells cs t fr)):KeepNC l W W' :=
 ⟨h.size,fun x _ ho hn hx=>(h.block x (zAG ho) (fun e=>by
  rcases hr x e.symm with h1 | ⟨cs,t,fr,h1⟩
  ·exact hx h1
  ·rw[ho] at h1;injection h1 with h1;subst h1;cases hn)).trans ho⟩
theorem KeepNC.row{i:Nat}{cs:Array Value}{t:TypeId}(st:St B w0 L W)(hL:L[i]?=some (b,cs,t))(h:W.grownBy W' (some b)):KeepNC l W W' :=
 KeepNC.grown h (fun b' e=>by cases e;exact .inr ⟨cs,t,(0,0),st.at hL⟩)
theorem KeepNC.own{base:Nat}{e:TypeId}{size n:Nat}{v:Value}{xs:List Value}(ho:W.ownsRow base e size v n xs)(h:W.grownBy W' v.ownBlock):KeepNC l W W' :=
 KeepNC.grown h (fun b' e'=>by
  rcases ho.2 with ⟨rfl,_⟩ | ⟨g,cap,cur,rfl,_,hg,_⟩
  ·cases e'
  ·have e1:g=b':=Option.some.inj e'
   subst e1;exact .inr ⟨_,_,_,hg⟩)
theorem KeepNC.putObj(l:Nat)(W:World)(o:Obj):KeepNC l W (W.putObj l o):=⟨by simp,fun _ _ ho _ hx=>(World.putObj_heap_other hx).trans ho⟩
theorem St.putNC{o o':Obj}(st:St B w0 L W)(hB:B≤l)(ho:W.heap[l]?=some o)(hn:o.isCells=false):St B w0 L (W.putObj l o') :=
 St.ownFrom (fun _:Unit=>L) hB () W _ (some l) st (grownBy_putObj' W l _) fun k e=>by cases e;exact⟨Nat.le_refl _,_,ho,hn⟩
theorem zEV{base:Nat}{e:TypeId}{size n:Nat}{v:Value}{xs:List Value}{o o':Obj}(h:W.ownsRow base e size v n xs)(ho:W.heap[l]?=some o)(hn:o.isCells=false):(W.putObj l o').ownsRow base e size v n xs:=by
 refine h.kept (grownBy_putObj' W l o') ?_;rcases h.2 with ⟨rfl,_⟩ | ⟨g,cap,cur,rfl,_,hg,_⟩
 ·exact .inl rfl
 ·refine .inr fun e=>?_
  have e1:g=l:=Option.some.inj e;subst e1;rw[hg] at ho;injection ho with ho;subst ho
  cases hn
theorem own_fresh{base:Nat}{e:TypeId}{size n:Nat}{v:Value}{xs:List Value}(h:W.ownsRow base e size v n xs)(hb:W.heap.size≤b)(h':W'.ownsRow base e size v n xs)(hg:W'.grownBy W2 (some b)):W2.ownsRow base e size v n xs:=by
 refine h'.kept hg ?_
 cases hv:v.ownBlock with
 |none=>exact .inl rfl
 |some k =>
  refine .inr fun e=>?_
  have:=(h.lt k hv).2;injection e with e;omega
theorem RdB.row_turn{v:Value}{l':List Nat}{cs:Array Value}{t:TypeId}(h:RdB W v l')(hrow:W.heap[b]?=some (.cells cs t (0,0)))(hcs:∀(i:Nat)(x:Int),cs[i]?≠some (.int .u8 x))(hg:W.grownBy W' (some b)):RdB W' v l':=by
 refine⟨h.1,?_⟩;rcases h.2 with h | ⟨b',off,cap,hv,hcc⟩
 ·exact .inl h
 ·refine .inr ⟨b',off,cap,hv,fun i hi=>?_⟩
  have h1:=hcc i hi;refine(World.cell?_of_block (w:=W) (hg.block b' (zAS h1) ?_)).trans h1;intro e;obtain rfl:b'=b:=Option.some.inj e;simp only[World.cell?,hrow,Option.isSome_none,Bool.false_eq_true,if_false] at h1;exact hcs _ _ h1
end
section
variable {P:Program} {ops:Array Oper} {rest:List Oper} {o:Oper} {a:Act} {w w0:World} {Q:Exit→Act→World→Prop} {B:Nat} {L:List (Nat×Array Value×TypeId)}
theorem St.grownNe{w':World}{row:Option Nat}(st:St B w0 L w)(hg:w.grownBy w' row)(hr:∀k,row=some k→B≤k)(hL:∀p∈L,row≠some p.1):St B w0 L w' :=
 ⟨st.below.trans ⟨hg.os,hg.tape,hg.output,hg.size,fun k hk=>hg.block k (by have:=st.size;omega) (fun e=>by have:=hr k e.symm;omega)⟩,Nat.le_trans st.size hg.size,
  fun p hp=>⟨(st.rows p hp).1,by
   rw[hg.block p.1 (zAG (st.rows p hp).2) (fun e=>hL p hp e.symm)];exact(st.rows p hp).2⟩,st.nodup⟩
theorem zDX{base:Nat}(st:St B w0 L w)(v:Value)(hL:∀p∈L,v.ownBlock≠some p.1)(hB:B≤base)(hgd:o.guard=none)(s x:Operand)(t:TypeId)
  (ho:o.op=.call {callee:=.builtin .append,args:=#[s,x],argTypes:=#[t,t]}) (e:TypeId) (z:Value) (size bytes:Nat) (ht:P.underlying t=some (.slice e))
  (hz:(P.info? e).bind (·.zero)=some z) (hsize:(P.info? e).map (·.size)=some size) (hby:(P.info? e).map (·.bytes)=some bytes) (hzs:z.cells.size=size) (hsz:0<size)
  (n:Nat) (xs:List Value) (hs:a.eval s=v) (hown:w.ownsRow base e size v n xs)
  (b m c:Nat) (news:Array Value) (tt:TypeId) (hx:a.eval x=.slice (some ⟨b,0,none⟩) m c) (hl:news.size=m*size) (hb:w.heap[b]?=some (.cells news tt (0,0))) (h1:∀u∈news.toList,u.oneCell'=true)
  (h63:n+m≤maxLen) (hbytes:(n+m)*bytes≤140737488355328) (hbase:base≤w.heap.size)
  (h:∀v' w1,St B w0 L w1→w1.ownsRow base e size v' (n+m) (xs++news.toList)→w.grownBy w1 v.ownBlock→wpList P ops Q rest (a.put o.dst v') w1):wpList P ops Q (o::rest) a w:=by
 cases hq:P.info? e with
 |none=>simp[hq] at hz
 |some i =>
  refine wpList_append_own w hgd s x t ho base e i z size bytes ht hq (by simpa[hq] using hz) (by simpa[hq] using hsize) (by simpa[hq] using hby) hzs hsz v n xs hs hown ⟨b,0,none⟩ m c news.toList hx (by simpa using hl) (fun j u hu=>?_) h1 h63 hbytes hbase (fun v' w' g1 g2 g3=>?_)
  ·have hadd:(⟨b,0,none⟩:Addr).add j=⟨b,j,none⟩:=by unfold Addr.add;split<;>simp_all
   rw[hadd,cell_of_row w b j news tt (0,0) hb,←Array.getElem?_toList];exact hu
  ·exact h v' w' (st.grownNe g2 (fun k hk=>Nat.le_trans hB (hown.lt k hk).1) hL) g1 g2
theorem wpList_boxA2(st:St B w0 L w)(hgd:o.guard=none)(ty:TypeId)(x:Operand)(ho:o.op=.box ty x)(v:Value)(hx:a.eval x=v)
  (h:∀b w1,St B w0 ((b,v.cells,ty)::L) w1→w.heap.size≤b→Below w.heap.size w w1→wpList P ops Q rest (a.put o.dst (.pointer (some ⟨b,0,none⟩))) w1):wpList P ops Q (o::rest) a w:=by
 refine wpList_plain hgd fun K hK=>?_
 unfold Oper.wp execOp;simp only[ho,hx,Instr.box,newVar,newRow,Sem.run_bind,run_newObj,Sem.run_pure,Result.andThen_ok,Oper.upon];exact hK _ _ (h _ _ (st.new v.cells ty) (Nat.le_refl _) ((Below.refl _ _).alloc (Nat.le_refl _) _))
theorem zIW(st:St B w0 L w)(hgd:o.guard=none)(ty:TypeId)(ho:o.op=.alloc ty)(z:Value)(hz:(P.info? ty).bind (·.zero)=some z)
  (h:∀b w1,St B w0 ((b,z.cells,ty)::L) w1→w.heap.size≤b→Below w.heap.size w w1→wpList P ops Q rest (a.put o.dst (.pointer (some ⟨b,0,none⟩))) w1):wpList P ops Q (o::rest) a w:=by
 refine wpList_plain hgd fun K hK=>?_
 cases hq:P.info? ty with
 |none=>simp[hq] at hz
 |some i =>
  have hi:i.zero=some z:=by simpa[hq] using hz
  unfold Oper.wp execOp;simp only[ho,Instr.alloc,zeroValue,typeInfo,run_program,hq,hi,newVar,newRow,Sem.run_bind,run_newObj,Sem.run_pure,Result.andThen_ok,Oper.upon];exact hK _ _ (h _ _ (st.new z.cells ty) (Nat.le_refl _) ((Below.refl _ _).alloc (Nat.le_refl _) _))
end
theorem wpListIn_loadPR{P:Program}{ops:Array Oper}{Q:Exit→Act→World→Prop}{a:Act}{w:World}{l n:Nat}{rest:List Oper}{o:Oper}(hgd:Region.wanted o (yielded ops a.tmps)=true)(ty:TypeId)(x:Operand)(ho:o.op=.load ty x)
  (g off m:Nat) (hx:a.eval x=.pointer (some ⟨g,off,none⟩)) (hagg:∃d,P.underlying ty=some d∧zGJ d=true) (cs:Array Value) (t:TypeId) (fr:Nat×Nat)
  (hg:w.heap[g]?=some (.cells cs t fr)) (hi:(P.info? ty).map (·.size)=some m) (hle:off+m≤cs.size) (res:Array Value) (hres:cs.extract off (off+m)=res)
  (h:wpListIn (Fence.wide.inRound l) n P ops Q rest (a.put o.dst (.agg res)) w):wpListIn (Fence.wide.inRound l) n P ops Q (o::rest) a w:=by
 obtain⟨d,hu,hd⟩:=hagg;subst hres;simp only[wpListIn];rw[if_pos hgd];refine opIn_of_op (by unfold noDefer;rw[ho]) ?_;unfold Oper.wp execOp;have hl:=zDD (P:=P) w g off m t ty cs fr d hg hu hd hi hle;simp only[ho,hx,Instr.loadAt,Instr.sureAddr,Sem.run_bind,Sem.run_pure,Result.andThen_ok,hl,Oper.upon];exact h
theorem roundIn_any{P:Program}{l l' m m':Nat}{f:FuncId}{tmps:Array Value}{assign body:Code}{w:World}{R:Ending→World→Prop}(h:RoundIn Fence.wide m P l f tmps assign body w R):RoundIn (Fence.wide.inRound l') m' P l f tmps assign body w R :=
 ⟨trivial,fun c cs _=>h.2 c cs (room_wide _)⟩
theorem slice_le(a:Option Addr)(n c:Nat)(x:Value):0+(Value.slice a n c).cells.size≤(#[x]:Array Value).size:=Nat.le_refl 1
theorem slice_one(a:Option Addr)(n c:Nat):∀u∈(Value.slice a n c).cells.toList,u.oneCell'=true:=by
 intro u hu;obtain rfl:u=Value.slice a n c:=by simpa[Value.cells] using hu
 rfl
theorem slice_no(a:Option Addr)(n c:Nat)(i:Nat)(x:Int):(Value.slice a n c).cells[i]?≠some (.int .u8 x):=by
 cases i<;>simp[Value.cells]
end
section
set_option maxHeartbeats 4000000
open Go Go.RowKit
attribute [local irreducible] Inv.wpInv Mix.wpUp
attribute [local go_sem] Oper.semAt_some
def belF(KK:List Int)(bits:Int)(e:List Nat)(k X:List Nat)(dp:Nat):Nat→List Nat
 |0=>zBE KK bits e
 |j+1=>zBE KK bits (1::(if zBO k (dp - 1 - j)=0 then belF KK bits e k X dp j++digAt X (dp - 1 - j) else digAt X (dp - 1 - j)++belF KK bits e k X dp j))
def stepsF(KK:List Int)(bits:Int)(e:List Nat)(k X:List Nat)(dp n:Nat):List Nat:=((List.range n).map (belF KK bits e k X dp)).flatten
theorem belF_key(KK:List Int)(bits:Int)(e k X:List Nat)(dp:Nat):∀j,Key (belF KK bits e k X dp j)
 |0=>zBG _ _ _
 |_+1=>zBG _ _ _
theorem stepsF_succ(KK:List Int)(bits:Int)(e k X:List Nat)(dp n:Nat):stepsF KK bits e k X dp (n+1)=stepsF KK bits e k X dp n++belF KK bits e k X dp n:=by
 unfold stepsF;rw[List.range_succ,List.map_append,List.flatten_append];simp
theorem stepsF_len(KK:List Int)(bits:Int)(e k X:List Nat)(dp:Nat):∀n,(stepsF KK bits e k X dp n).length=32*n
 |0=>rfl
 |n+1=>by rw[stepsF_succ,List.length_append,stepsF_len KK bits e k X dp n,(belF_key KK bits e k X dp n).len];omega
theorem St.ltAll{B:Nat}{w0 W:World}{L:List (Nat×Array Value×TypeId)}(st:St B w0 L W)(x:Nat)(hx:x∈L.map (·.1)):x<W.heap.size:=by
 obtain⟨p,hp,rfl⟩:=List.mem_map.1 hx;exact zAG (st.rows p hp).2
theorem endM{P:Program}{F:Fence}{n:Nat}{fn:Func}{R:Ending→World→Prop}{a:Act}{w:World}{v:Value}(D:Nat)(hdf:a.defers=[{target:=.collected D,args:=#[]}])(hK:w.heap[D]?=some (.deferred (some [])))
  (hr:(results fn a.tmps).run P (w.putObj D (.deferred none))=.ok v (w.putObj D (.deferred none))) (h:R (.returned v) (w.putObj D (.deferred none))):bodyPostM F n P fn R .normal a w:=by
 show LeavesInM F n P fn a.tmps R a.defers .returning w
 rw[hdf];exact⟨by simp,.inl ⟨D,_,rfl,run_takeDeferred hK,v,hr,h⟩⟩
theorem St.few{B:Nat}{w0 W:World}{L L':List (Nat×Array Value×TypeId)}(st:St B w0 L W)(h:∀p∈L',p∈L)(hn:(L'.map (·.1)).Nodup):St B w0 L' W:=⟨st.below,st.size,fun p hp=>st.rows p (h p hp),hn⟩
theorem zeroD2:(Tryz.prog.info? 186).bind (·.zero)=some (.agg (kv (zAH++zAH))):=by kernel_rfl
theorem sizeD2:(Tryz.prog.info? 186).map (·.size)=some 64:=by kernel_rfl
def shapeA(P:Program)(t:TypeId):Option (Array Value×Nat) :=
 match P.info? t,P.underlying t with
 |some it,some (.array _ e) =>
  match it.zero,P.info? e with
  |some z,some ie=>some (z.cells,ie.size)
  |_,_=>none
 |_,_=>none
theorem built_arr{P:Program}{t:TypeId}{z:Array Value}{m:Nat}(h:shapeA P t=some (z,m))(ps:List (Nat×Value)):P.built t ps=Instr.fill (fun i=>some (i*m,m)) z ps:=by
 unfold shapeA at h;unfold Program.built
 split at h
 ·rename_i it n e h1 h2
  split at h
  ·rename_i z' ie h3 h4
   simp only[Option.some.injEq,Prod.mk.injEq] at h;obtain⟨rfl,rfl⟩:=h;simp only[h1,h2,h3,h4]
  ·cases h
 ·cases h
theorem shapeD2:shapeA Tryz.prog 186=some (kv (zAH++zAH),32):=by kernel_rfl
theorem builtD2(a b:List Nat)(ha:a.length=32)(hb:b.length=32):Tryz.prog.built 186 [(0,.agg (kv a)),(1,.agg (kv b))]=some (kv (a++b)):=by
 have hz:zAH.length=32:=rfl;have h1:(Value.agg (kv a)).cells.size=32:=by show (kv a).size=32;rw[zAF,ha]
 have h2:(Value.agg (kv b)).cells.size=32:=by show (kv b).size=32;rw[zAF,hb]
 rw[built_arr shapeD2,zEK (off:=0) (by rw[h1]) (by rw[h1,zAF];simp[hz]),kv_put,zEK (off:=32) (by rw[h2]) (by rw[h2,zAF];simp[hz,ha]),kv_put];simp[Instr.fill,ha,hb,hz,List.drop_eq_nil_of_le]
theorem zeroSlDig:(Tryz.prog.info? 41).bind (·.zero)=some (.slice none 0 0):=by kernel_rfl
set_option maxRecDepth 100000 in
theorem Steps_calls(KK:List Int)(kd:Int)(dp:Nat)(lf bm sib k:List Nat)(av:Option Addr)(n cv:Nat)(hl:lf.length=64)(hlb:∀x∈lf,x<256)(hk:Key bm)(hkk:Key k)(hsb:∀x∈sib,x<256)(hck:zGV kd dp lf bm n=0)(hb cb:Nat)(bits c:Int)(w:World)(hh:HasH hb cb bits c w)(hB:0≤bits∧bits≤256)
  (hc : -4611686018427387904≤c∧c≤1000000) (hK:HasK KK w) (hs:RdD w (.slice av n cv) n sib) :
  Calls Tryz.prog 46 #[.pointer (some ⟨hb,0,none⟩),.agg (zAB kd dp lf bm (.slice av n cv)),.agg (kv k)] w
   fun e w'=>∃v,e=.returned (.tuple #[v,.int .i64 0])∧RdD w' v (dp+1) (stepsF KK bits (endF kd lf) k (expF (zBE KK bits [3]) dp (setB bm) sib) dp (dp+1))∧w.grownBy w' (some cb)∧HasH hb cb bits (c+2+dp) w':=by
 have HH:=Lib.hid hh;have HKK:=Lib.hid hK;obtain⟨hd0,hd1,hlast,hlen⟩:=check_ok hck;have HE:=Lib.hid (fun wx h1 h2 h3=>Expand_calls KK kd dp lf bm sib av n cv hl hk hck hb cb bits c wx h1 hB (by omega) h2 h3);have HS:Hid ((zAB kd dp lf bm (.slice av n cv)).size=99):=zAO hl hk.len;have Hen:=Lib.hid (fun wx=>end_calls kd dp lf bm (.slice av n cv) hl hk.len wx);have HeL:Hid ((endF kd lf).length≤65∧∀x∈endF kd lf,x<256):=⟨endF_len kd lf hl,endF_lt kd lf hlb⟩
 have hn:n=(setB bm).length:=by rw[←hlen,lenN_eq hk]
 have HX:Hid ((expF (zBE KK bits [3]) dp (setB bm) sib).length=32*dp):=expF_len _ (zBG KK bits [3]).len dp sib n _ hn.symm (fun x hx=>by have:=setB_le_last hx;omega) (by have:=hs.1;omega);have HXb:Hid (∀x∈expF (zBE KK bits [3]) dp (setB bm) sib,x<256):=expF_lt _ (zBG KK bits [3]).2 dp sib hsb n _ hn.symm;have HRd:=Lib.hid hs;have Hk:=Lib.hid hkk;have Hcc:=Lib.hid hc;have HBb:=Lib.hid hB;clear hh hK hk hck hs hc hlast hlen hn hkk hsb hlb hl;generalize expF (zBE KK bits [3]) dp (setB bm) sib=X at *;generalize endF kd lf=ef at *;generalize zAB kd dp lf bm (.slice av n cv)=pc at *;obtain⟨dP,hdP,haP⟩:=zGE;have st:=St.init w;refine(callsIn_wide (n:=5)).1 ?_;refine callsIn_of_wp_marks Tryz.func46 rfl trivial ?_ rfl;simp only[Tryz.ntmps46,List.size_toArray,List.length_cons,List.length_nil,Nat.reduceAdd,Nat.reduceSub,Array.replicate_succ,Array.replicate_zero,List.push_toArray,List.append_toArray,List.nil_append,List.cons_append];refine wpIn_wide.2 ?_
 go_wp2_with (first
  |(refine zAD st rfl 43 _ rfl pc rfl ?_;intro b4 w1 st1;clear st)
  |(refine zAD st1 rfl 37 _ rfl (kv k) rfl ?_;intro b5 w2 st2;clear st1;have st3:=StH.init HH.out st2)
  |(refine zAC rfl 43 _ rfl b4 rfl _ hdP haP _ _ (st3.at (i:=1) rfl) (zAQ HS.out) ?_)
  |(go_at_call 86;refine(HE.out _ (StH.has st3 HH.out) (StH.hasK st3 HH.out HKK.out) (HRd.out.turn HH.out.c (StH.grown st3))).mono ?_;rintro e w4 ⟨g,rfl,hgle,hgrow,hg4,hh4⟩;have st4:=StH.sumNew st3 HH.out hg4 hh4 hgle hgrow;clear st3 st2 hgle hgrow hg4 hh4)
  |(refine zCS st4 rfl 41 rfl _ zeroSlDig ?_;intro b10 w5 st5;clear st4)
  |(refine zAC rfl 43 _ rfl b4 rfl _ hdP haP _ _ (st5.at (i:=3) rfl) (zAQ HS.out) ?_)
  |(refine zAC rfl 37 _ rfl b5 rfl _ zBF rfl _ _ (st5.at (i:=2) rfl) (zAX Hk.out.len) ?_)
  |(go_at_call 87;refine(ways_calls hb pc (some ⟨g,0,none⟩) dp dp k _).mono ?_;rintro e w6 ⟨B4,B5,B6,B7,rfl,stw⟩))
 have st6:=St.join st5 stw;clear st5 stw;have hwS:=st6.size;refine wpIn_wide.1 (zFV (F:=Fence.wide) (n:=5) rfl (by omega) (gf:=135) (lb:=#[.pointer (some ⟨B5,0,none⟩),.pointer (some ⟨B4,0,none⟩),.pointer (some ⟨B6,0,none⟩),.pointer (some ⟨B7,0,none⟩)]) rfl trivial (enters_of Tryz.func135 (by kernel_rfl) rfl) ?_);intro rd1 bs1 W1 hW1 hY1;have hYo:∀(B0 M:Nat)(w0:World) (L:List (Nat×Array Value×TypeId)) (i:Nat) (v val:Value) (n:Nat) (xs:List Value) (dg:List Nat) (W:World),St B0 w0 L W→L[i]?=some (b10,#[v],41)→(∀p∈L,v.ownBlock≠some p.1)→b10<M→B0≤w6.heap.size→B0≤M→M≤W.heap.size→n≤300→dg.length=32 →
   W.ownsRow M 38 32 v n xs→W.heap[w6.heap.size+1]?=some (.loop rd1) →
   YieldAt Fence.wide 3 Tryz.prog (w6.heap.size+1) #[val,.agg (kv dg)] W (fun e W'=>e=.returned (.bool true)∧∃v',St B0 w0 (L.set i (b10,#[v'],41)) W'∧W'.ownsRow M 38 32 v' (n+1) (xs++zAJ dg)∧KeepNC (w6.heap.size+1) W W'∧W'.heap[w6.heap.size+1]?=some (.loop rd1)):=by
  intro B0 M w0 L i v val n xs dg W stW hLi hLM hb10M hB0 hBM hM hn3 hdg hown hrec;refine hY1 #[val,.agg (kv dg)] W _ rfl hrec ?_;refine zEJ (fun h=>by obtain⟨_,_,h⟩:=h;exact h.elim) (by decide) ?_;go_simp
  go_wp2_with (first
   |(refine zCR stW rfl 38 rfl _ zCG ?_;intro b12 wa sta hb12 hbla)
   |(refine zAZ sta rfl 38 _ _ rfl 0 b12 0 rfl (.agg (kv dg)) rfl _ _ rfl (zCA hdg) (by show 0+(kv dg).size≤_;rw[zAF,hdg,zAF];decide) (zBJ _) _ (zGC (by show (kv dg).size=_;rw[zAF,hdg,zAF];rfl)) _ rfl ?_;intro wb stb hgb))
  have hkb:∀l,KeepNC l W wb:=fun l=>(KeepNC.below hbla).trans (KeepNC.row sta (i:=0) rfl hgb)
  have hrecb:=(hkb (w6.heap.size+2)).2 _ _ hrec rfl (by omega);have hownb:=own_fresh hown hb12 (zAY hown hbla) hgb;have hMb:=Nat.le_trans hM (hkb 0).1;have stb':St B0 w0 ((b12,kv dg,38)::L) wb:=stb;have stc:=stb'.putNC (o':=.loop bs1) (by omega) hrecb rfl;have hownc:=zEV (o':=.loop bs1) hownb hrecb rfl;have hLi':((b12,kv dg,38)::L)[i+1]?=some (b10,#[v],41):=by simpa using hLi
  refine⟨hrecb,?_⟩;have hkc:KeepNC (w6.heap.size+1) W (wb.putObj (w6.heap.size+1) (.loop bs1)):=(hkb _).trans (KeepNC.putObj _ _ _);have hrecc:(wb.putObj (w6.heap.size+1) (.loop bs1)).heap[w6.heap.size+1]?=some (.loop bs1):=World.putObj_heap_same (zAG hrecb);have hMc:M≤(wb.putObj (w6.heap.size+1) (.loop bs1)).heap.size:=by rw[World.putObj_size];exact hMb
  generalize wb.putObj (w6.heap.size+1) (.loop bs1)=wc at *;clear hkb hrecb hownb hMb hown hrec sta hbla stb stb' hgb stW hM;refine wpIn_block ?_;refine zEJ (fun h=>by obtain⟨_,_,h⟩:=h;exact absurd h.1 (by simp)) (by decide) ?_;have hcv:=stc.cell hLi' 0;have hcv':wc.cell? ⟨b10,0,none⟩=some v:=hcv;clear hcv;have hLi2:L[i]?=some (b10,(#[v]:Array Value),41):=hLi;have hvc:=zDO hownc
  go_wp2_with (first
   |(refine zAC rfl 38 _ rfl b12 rfl _ zEE rfl _ _ (stc.at (i:=0) rfl) (zCA hdg) ?_)
   |(refine zAR stc rfl 41 1 _ rfl 38 zFO _ 32 zCG zBV (by decide) (by decide) [(0,.agg (kv dg))] ?_ _ (fillD dg hdg) ?_;(·first | (simp[Act.eval,Act.put];done) | rfl);intro b31 wd std hbd;have hownd:=zAY hownc hbd;have hrowd:=std.at (i:=0) rfl;have std2:=std.drop.drop;have hMd:=Nat.le_trans hMc hbd.size)
   |(at_builtin;refine zDX (base:=M) std2 v hLM hBM rfl _ _ 41 rfl 38 _ 32 32 zFO zCG zBV bytesDig rfl (by decide) n xs rfl hownd b31 1 1 (kv dg) 38 rfl (by rw[zAF,hdg]) hrowd (zBJ _) (by unfold maxLen;omega) (by omega) hMd ?_;intro v' we ste howne hge;have hMe:=Nat.le_trans hMd hge.size)
   |(refine zAZ ste rfl 41 _ _ rfl i b10 0 rfl v' rfl _ _ hLi2 (by rw[(zDO howne)];exact sizeSlD) (by rw[(zDO howne)];simp) (by rw[(zDO howne)];simpa using own_one howne) (#[v']) ((zGC (by rw[(zDO howne)];rfl)).trans (zDO howne)) _ rfl ?_;intro wf stf hgf))
  have hkf:∀l,KeepNC l wc wf:=fun l=>((KeepNC.below hbd).trans (KeepNC.own hownd hge)).trans (KeepNC.row ste hLi2 hgf)
  have hrecf:=(hkf (w6.heap.size+2)).2 _ _ hrecc rfl (by omega);have hownf:=zEQ howne hgf hb10M;refine⟨trivial,hrecf,v',stf.putNC (by omega) hrecf rfl,zEV hownf hrecf rfl,(hkc.trans (hkf _)).trans (KeepNC.putObj _ _ _),World.putObj_heap_same (zAG hrecf)⟩
 have HYo:=Lib.hid hYo;clear hYo HE HRd;have hbelW1:Below w6.heap.size w6 W1:=by rw[hW1];exact((Below.refl _ w6).alloc (Nat.le_refl _) _).alloc (by simp) _
 have hsz1:W1.heap.size=w6.heap.size+2:=by rw[hW1];simp
 have hrec1:W1.heap[w6.heap.size+1]?=some (.loop rd1):=by
  rw[hW1];have:=World.alloc_heap_new (w6.alloc (.deferred (some []))) (.loop rd1);rwa [World.size_alloc] at this
 have hdef1:W1.heap[w6.heap.size]?=some (.deferred (some [])):=by
  rw[hW1];exact(Below.heap_alloc _ _ _ (by simp)).trans (World.alloc_heap_new w6 _)
 have st7:StH w cb (c+1) [(B7,kv k,37),(B6,#[.slice (some ⟨g,0,none⟩) dp dp],41),(B5,pc,43),(B4,#[.pointer (some ⟨hb,0,none⟩)],29),(b10,#[.slice none 0 0],41),(g,kv X,38),(b5,kv k,37),(b4,pc,43)] W1:=St.call st6 hbelW1;clear hY1 hW1 st6 hbelW1;have hWays:CallsIn Fence.wide 4 Tryz.prog 135 #[.func (.yield (w6.heap.size+1)) #[] #[],.pointer (some ⟨B5,0,none⟩),.pointer (some ⟨B4,0,none⟩),.pointer (some ⟨B6,0,none⟩),.pointer (some ⟨B7,0,none⟩)] W1 (fun e W'=>(∃v,e=.returned v) ∧
   ∃v M,StH w cb (c+2+dp) [(b10,#[v],41)] W'∧W'.ownsRow M 38 32 v (dp+1) (zAJ (stepsF KK bits ef k X dp (dp+1)))∧W'.heap[w6.heap.size+1]?=some (.loop rd1)∧W'.heap[w6.heap.size]?=some (.deferred (some []))):=by
  refine callsIn_of_wp_marks Tryz.func135 rfl trivial ?_ rfl;simp only[Tryz.ntmps135,List.size_toArray,List.length_cons,List.length_nil,Nat.reduceAdd,Nat.reduceSub,Array.replicate_succ,Array.replicate_zero,List.push_toArray,List.append_toArray,List.nil_append,List.cons_append];refine wpIn_wide.2 ?_;have hSum1:=Lib.hid (fun v2 wx h1 h2 h3=>zHQ KK ef v2 hb cb bits (c+1) wx h1 HBb.out (by have:=Hcc.out;omega) HeL.out.2 (by have:=HeL.out.1;omega) h2 h3);have HD0:=Lib.hid (zBG KK bits ef)
  go_wp2_with (first
   |(refine wpList_boxA2 st7 rfl 252 _ rfl (.func (.yield (w6.heap.size+1)) #[] #[]) rfl ?_;intro c5 w8 st8 hc5 hbl8;have hk8:∀l,KeepNC l W1 w8:=(fun l=>KeepNC.below hbl8))
   |(refine zAC rfl 43 _ rfl B5 rfl _ hdP haP _ _ (st8.at (i:=3) rfl) (zAQ HS.out) ?_)
   |(go_at_call 136;refine(Hen.out _).mono ?_;rintro e w9 ⟨ve,rfl,hrd9,hbel9⟩;have st9:=St.call st8 hbel9;have hk9:∀l,KeepNC l W1 w9:=(fun l=>(hk8 l).trans (KeepNC.below hbel9));clear st8 hbel9 hk8;obtain⟨ae,ce,rfl,_⟩:=hrd9.open)
   |(refine zIW st9 rfl 22 rfl _ zeroSl ?_;intro c6 w10 st10 hc6 hbl10;have hk10:∀l,KeepNC l W1 w10:=(fun l=>(hk9 l).trans (KeepNC.below hbl10));have hrd10:=hrd9.call hbl10;clear st9 hbl10 hk9 hrd9)
   |(refine zAZ st10 rfl 22 _ _ rfl 0 c6 0 rfl (.slice ae ef.length ce) rfl _ _ rfl sizeSlB (slice_le _ _ _ _) (slice_one _ _ _) (#[.slice ae ef.length ce]) ((zGC rfl).trans rfl) _ rfl ?_;intro w11 st11 hg11;have hk11:∀l,KeepNC l W1 w11:=(fun l=>(hk10 l).trans (KeepNC.row st10 (i:=0) rfl hg11));have hrd11:=hrd10.row_turn (st10.at (i:=0) rfl) (slice_no _ _ _) hg11;clear st10 hg11 hk10 hrd10;have hcB4:=st11.cell (i:=5) rfl 0;have hcc6:=st11.cell (i:=0) rfl 0)
   |(go_at_call 82;refine(hSum1.out (.slice ae ef.length ce) _ (StH.has st11 HH.out) hrd11 (StH.hasK st11 HH.out HKK.out)).mono ?_;rintro e w12 ⟨rfl,hg12,hh12⟩;have st12:=StH.sum st11 HH.out hg12 hh12;have hk12:∀l,KeepNC l W1 w12:=(fun l=>(hk11 l).trans (KeepNC.grown hg12 (fun b e=>by cases e;exact .inr ⟨_,_,_,(StH.has st11 HH.out).c⟩)));clear hcB4 hcc6 st11 hk11 hrd11 hg12 hh12)
   |(refine zCR st12 rfl 38 rfl _ zCG ?_;intro c7 w13 st13 hc7 hbl13;have hk13:∀l,KeepNC l W1 w13:=(fun l=>(hk12 l).trans (KeepNC.below hbl13));clear st12 hbl13 hk12)
   |(refine zAZ st13 rfl 38 _ _ rfl 0 c7 0 rfl (.agg (kv (zBE KK bits ef))) rfl _ _ rfl (zCA HD0.out.len) (by show 0+(kv _).size≤_;rw[zAF,HD0.out.len,zAF];decide) (zBJ _) (kv (zBE KK bits ef)) ((zGC (by show (kv _).size=_;rw[zAF,HD0.out.len,zAF];rfl)).trans rfl) _ rfl ?_;intro w14 st14 hg14;have hk14:∀l,KeepNC l W1 w14:=(fun l=>(hk13 l).trans (KeepNC.row st13 (i:=0) rfl hg14));clear st13 hg14 hk13;have hcB6:=st14.cell (i:=4) rfl 0)
   |(go_at_call 137;refine(BackD_calls (some ⟨g,0,none⟩) dp dp _).mono ?_;rintro e w15 ⟨Bs,rfl,stw⟩;have st15:=St.join st14 stw;have hk15:∀l,KeepNC l W1 w15:=(fun l=>(hk14 l).trans (KeepNC.below stw.below));clear st14 stw hk14 hcB6))
  have hrec15:=(hk15 0).2 _ _ hrec1 rfl (by omega);have hdef15:=(hk15 (w6.heap.size+1)).2 _ _ hdef1 rfl (by omega);have hsz15:=(hk15 0).1;clear hk15 st7 hrec1 hdef1;refine wpIn_wide.1 (zFV (F:=Fence.wide) (n:=4) rfl (by omega) (gf:=166) (lb:=#[.pointer (some ⟨Bs,0,none⟩)]) rfl trivial (enters_of Tryz.func166 (by kernel_rfl) rfl) ?_);intro rd2 bs2 W2 hW2 hY2;have hbelW2:Below w15.heap.size w15 W2:=by rw[hW2];exact((Below.refl _ w15).alloc (Nat.le_refl _) _).alloc (by simp) _
  have hsz2:W2.heap.size=w15.heap.size+2:=by rw[hW2];simp
  have hrec2:W2.heap[w15.heap.size+1]?=some (.loop rd2):=by
   rw[hW2];have:=World.alloc_heap_new (w15.alloc (.deferred (some []))) (.loop rd2);rwa [World.size_alloc] at this
  have hdef2:W2.heap[w15.heap.size]?=some (.deferred (some [])):=by
   rw[hW2];exact(Below.heap_alloc _ _ _ (by simp)).trans (World.alloc_heap_new w15 _)
  have hrec12:=(hbelW2.block _ (zAG hrec15)).trans hrec15;have hdef12:=(hbelW2.block _ (zAG hdef15)).trans hdef15;have st16:=St.call st15 hbelW2;have hcbM:cb<W2.heap.size:=by have:=zAG HH.out.c;omega
  have hlt12:∀x∈[Bs,c7,c6,c5,B7,B6,B5,B4,b10,g,b5,b4],x<W2.heap.size:=fun x hx=>St.ltAll st16 x hx
  clear hW2 st15 hbelW2 hrec15 hdef15;obtain⟨S,hS'⟩:∃S:Nat→World→Prop,S=fun (j:Nat) W=>∃v va vn vc,StH w cb (c+2+(j:Nat)) [(Bs,#[.slice (some ⟨g,0,none⟩) dp dp],41),(c7,kv (belF KK bits ef k X dp j),38),(c6,#[.slice va vn vc],22),(c5,#[.func (.yield (w6.heap.size+1)) #[] #[]],252),(B7,kv k,37),(B6,#[.slice (some ⟨g,0,none⟩) dp dp],41),(B5,pc,43),(B4,#[.pointer (some ⟨hb,0,none⟩)],29),(b10,#[v],41),(g,kv X,38),(b5,kv k,37),(b4,pc,43)] W∧W.ownsRow W2.heap.size 38 32 v j (zAJ (stepsF KK bits ef k X dp j))∧W2.heap.size≤W.heap.size ∧
   W.heap[w6.heap.size+1]?=some (.loop rd1)∧W.heap[w6.heap.size]?=some (.deferred (some []))∧W.heap[w15.heap.size+1]?=some (.loop rd2)∧W.heap[w15.heap.size]?=some (.deferred (some [])):=⟨_,rfl⟩
  have hS:=Lib.hid hS';clear hS';have hS0:S 0 W2:=by
   rw[hS.out];have e0:c+1+1=c+2+((0:Nat):Int):=by omega
   exact⟨.slice none 0 0,ae,ef.length,ce,e0▸st16,World.ownsRow_nil _ _ _ _,Nat.le_refl _,hrec12,hdef12,hrec2,hdef2⟩
  have hYi:∀j W,j<dp→S j W→YieldAt Fence.wide (3 - 1) Tryz.prog (w15.heap.size+1) #[.int .i64 ((dp - 1 - j:Nat):Int),.agg (kv (digAt X (dp - 1 - j)))] W (fun e W'=>e=.returned (.bool true)∧S (j+1) W'):=by
   intro j W hj hSj;refine hY2 _ W (S (j+1)) rfl (by rw[hS.out] at hSj;obtain⟨_,_,_,_,_,_,_,_,_,h,_⟩:=hSj;exact h) ?_;rw[hS.out] at hSj;obtain⟨v,va,vn,vc,stW,hown,hM,hr1,hd1',hr2,hd2'⟩:=hSj;refine wpIn_seq ?_;refine zEJ (fun h=>by obtain⟨_,_,h⟩:=h;exact h.elim) (by decide) ?_;go_simp;go_wp2;refine zEJ (fun h=>by obtain⟨_,_,h⟩:=h;exact h.elim) (by decide) ?_;have Hdg:Hid ((digAt X (dp - 1 - j)).length=32):=by unfold Hid digAt;have:=HX.out;simp;omega
   have hB0:w.heap.size≤w15.heap.size:=by omega
   generalize hdgE:digAt X (dp - 1 - j)=dg at *
   go_wp2_with (first
    |(refine zCR stW rfl 38 rfl _ zCG ?_;intro c9 wa sta hc9 hbla;have hka:∀l,KeepNC l W wa:=(fun l=>KeepNC.below hbla);have howna:=zAY hown hbla)
    |(refine zAZ sta rfl 38 _ _ rfl 0 c9 0 rfl (.agg (kv dg)) rfl _ _ rfl (zCA Hdg.out) (by show 0+(kv dg).size≤_;rw[zAF,Hdg.out,zAF];decide) (zBJ _) (kv dg) ((zGC (by show (kv dg).size=_;rw[zAF,Hdg.out,zAF];rfl)).trans rfl) _ rfl ?_;intro wb stb hgb;have hkb:∀l,KeepNC l W wb:=(fun l=>(hka l).trans (KeepNC.row sta (i:=0) rfl hgb));have hownb:=own_fresh hown hc9 howna hgb))
   have hne9:v.ownBlock≠some c9:=fun e=>by have:=hown.lt c9 e;omega
   have hr1b:=(hkb 0).2 _ _ hr1 rfl (by omega);have hd1b:=(hkb (w6.heap.size+1)).2 _ _ hd1' rfl (by omega);have hr2b:=(hkb 0).2 _ _ hr2 rfl (by omega);have hd2b:=(hkb (w6.heap.size+1)).2 _ _ hd2' rfl (by omega);have hMb:=Nat.le_trans hM (hkb 0).1;refine⟨hr2b,?_⟩;have stc:=stb.putNC (o':=.loop bs2) (by omega) hr2b rfl;have hownc:=zEV (o':=.loop bs2) hownb hr2b rfl;have hr1c:=(World.putObj_heap_other (w:=wb) (o:=.loop bs2) (by omega:w6.heap.size+1≠w15.heap.size+1)).trans hr1b;have hd1c:=(World.putObj_heap_other (w:=wb) (o:=.loop bs2) (by omega:w6.heap.size≠w15.heap.size+1)).trans hd1b;have hd2c:=(World.putObj_heap_other (w:=wb) (o:=.loop bs2) (by omega:w15.heap.size≠w15.heap.size+1)).trans hd2b;have hr2c:(wb.putObj (w15.heap.size+1) (.loop bs2)).heap[w15.heap.size+1]?=some (.loop bs2):=World.putObj_heap_same (zAG hr2b);have hMc:W2.heap.size≤(wb.putObj (w15.heap.size+1) (.loop bs2)).heap.size:=by rw[World.putObj_size];exact hMb
   generalize wb.putObj (w15.heap.size+1) (.loop bs2)=wc at *;clear hka hkb hr1b hd1b hr2b hd2b hMb hr1 hd1' hr2 hd2' sta hbla stb hgb stW hM hown howna hownb;refine wpIn_block ?_;refine wpIn_seq ?_;refine wpIn_seq ?_;have hneW:∀p∈((c9,kv dg,38)::(Bs,#[.slice (some ⟨g,0,none⟩) dp dp],41)::(c7,kv (belF KK bits ef k X dp j),38)::(c6,#[.slice va vn vc],22)::(c5,#[.func (.yield (w6.heap.size+1)) #[] #[]],252)::(B7,kv k,37)::(B6,#[.slice (some ⟨g,0,none⟩) dp dp],41)::(B5,pc,43)::(B4,#[.pointer (some ⟨hb,0,none⟩)],29)::(b10,#[v],41)::(g,kv X,38)::(b5,kv k,37)::(b4,pc,43)::[]),v.ownBlock≠some p.1:=by
    intro p hp e;have h1:=hownc.lt p.1 e;rcases List.mem_cons.1 hp with rfl | hp
    ·exact hne9 e
    ·have:=hlt12 p.1 (List.mem_map_of_mem hp)
     omega
   have Hb:Hid ((belF KK bits ef k X dp j).length=32):=(belF_key KK bits ef k X dp j).len;have Hbx:Hid ((kv (belF KK bits ef k X dp j)).extract 0 (0+32)=kv (belF KK bits ef k X dp j)):=by unfold Hid;rw[zDY _ _ 32 (by rw[Hb.out];decide)];simp[Hb.out,List.take_of_length_le]
   have hY6:=HYo.out w.heap.size W2.heap.size _ _ 9 v (.slice va vn vc) j (zAJ (stepsF KK bits ef k X dp j)) (belF KK bits ef k X dp j) wc stc rfl hneW (hlt12 b10 (by simp)) (by omega) (by omega) hMc (by omega) Hb.out hownc hr1c;obtain⟨fn,tmps,assign,body,hy,hR⟩:=hY6;generalize hbE:belF KK bits ef k X dp j=bl at *;refine wpIn_region_lit ?_;have hc5c:=stc.cell (i:=4) rfl 0;have hc6c:=stc.cell (i:=3) rfl 0
   gi_wp2_with (first
    |(refine wpListIn_loadPR rfl 38 _ rfl c7 0 32 rfl zFZ _ _ _ (stc.at (i:=2) rfl) zBV (by rw[zAF,Hb.out];decide) _ Hbx.out ?_))
   refine RoundIn.mono (roundIn_any hR) ?_;rintro e W3 ⟨rfl,v',st3,hown3,hk3,hr13⟩;go_simp
   iterate 11 gi_step
   have st3':StH w cb (c+2+(j:Nat)) [(c9,kv dg,38),(Bs,#[.slice (some ⟨g,0,none⟩) dp dp],41),(c7,kv bl,38),(c6,#[.slice va vn vc],22),(c5,#[.func (.yield (w6.heap.size+1)) #[] #[]],252),(B7,kv k,37),(B6,#[.slice (some ⟨g,0,none⟩) dp dp],41),(B5,pc,43),(B4,#[.pointer (some ⟨hb,0,none⟩)],29),(b10,#[v'],41),(g,kv X,38),(b5,kv k,37),(b4,pc,43)] W3:=st3;have hHne:=hne9;obtain⟨EX,hEX⟩:∃E:World→Prop,E=fun wx=>wx.ownsRow W2.heap.size 38 32 v' (j+1) (zAJ (stepsF KK bits ef k X dp (j+1)))∧W2.heap.size≤wx.heap.size∧wx.heap[w6.heap.size+1]?=some (.loop rd1)∧wx.heap[w6.heap.size]?=some (.deferred (some []))∧wx.heap[w15.heap.size+1]?=some (.loop bs2)∧wx.heap[w15.heap.size]?=some (.deferred (some [])):=⟨_,rfl⟩
   have hEX3:EX W3:=by
    rw[hEX];refine⟨?_,Nat.le_trans hMc hk3.1,hr13,hk3.2 _ _ hd1c rfl (by omega),hk3.2 _ _ hr2c rfl (by omega),hk3.2 _ _ hd2c rfl (by omega)⟩;rw[stepsF_succ,zCB,hbE];exact hown3
   have hUp:Hid (∀wx wy,EX wx→Below wx.heap.size wx wy→EX wy):=by
    rw[hEX];rintro wx wy ⟨h1,h2,h3,h4,h5,h6⟩ hb;exact⟨zAY h1 hb,Nat.le_trans h2 hb.size,(hb.block _ (zAG h3)).trans h3,(hb.block _ (zAG h4)).trans h4,(hb.block _ (zAG h5)).trans h5,(hb.block _ (zAG h6)).trans h6⟩
   have hTurn:Hid (∀(wx wy:World)(b:Nat) (cs:Array Value) (t:TypeId),EX wx→wx.heap[b]?=some (.cells cs t (0,0))→v'.ownBlock≠some b→wx.grownBy wy (some b)→EX wy):=by
    rw[hEX];rintro wx wy b cs t ⟨h1,h2,h3,h4,h5,h6⟩ hrow hne hg;have hk:=KeepNC.grown (l:=wx.heap.size) hg (fun b' e=>by cases e;exact .inr ⟨_,_,_,hrow⟩);refine⟨h1.kept hg ?_,Nat.le_trans h2 hg.size,hk.2 _ _ h3 rfl (Nat.ne_of_lt (zAG h3)),hk.2 _ _ h4 rfl (Nat.ne_of_lt (zAG h4)),hk.2 _ _ h5 rfl (Nat.ne_of_lt (zAG h5)),hk.2 _ _ h6 rfl (Nat.ne_of_lt (zAG h6))⟩
    cases hv:v'.ownBlock with
    |none=>exact .inl rfl
    |some k'=>exact .inr fun e=>hne (by rw[hv];first | exact e | exact e.symm)
   have hLo:Hid (∀wx b,EX wx→(b<W2.heap.size∨wx.heap.size≤b)→v'.ownBlock≠some b):=by
    rw[hEX];rintro wx b ⟨h1,_⟩ hb e
    have:=h1.lt b e;omega
   have hEnd:Hid (∀wx,EX wx→EX wx∧wx.heap[w15.heap.size+1]?=some (.loop bs2)):=by
    intro wx h;refine⟨h,?_⟩;rw[hEX] at h;exact h.2.2.2.2.1
   have hPR:Hid (belF KK bits ef k X dp (j+1)=zBE KK bits (1::(if zBO k (dp - 1 - j)=0 then bl++dg else dg++bl))):=by unfold Hid;rw[belF,hbE,hdgE]
   have hFin:Hid (∀wx wy va' vn' vc',EX wx→StH w cb (c+2+((j+1:Nat):Int)) [(Bs,#[.slice (some ⟨g,0,none⟩) dp dp],41),(c7,kv (belF KK bits ef k X dp (j+1)),38),(c6,#[.slice va' vn' vc'],22),(c5,#[.func (.yield (w6.heap.size+1)) #[] #[]],252),(B7,kv k,37),(B6,#[.slice (some ⟨g,0,none⟩) dp dp],41),(B5,pc,43),(B4,#[.pointer (some ⟨hb,0,none⟩)],29),(b10,#[v'],41),(g,kv X,38),(b5,kv k,37),(b4,pc,43)] wx→wy=wx.putObj (w15.heap.size+1) (.loop rd2)→S (j+1) wy):=by
    rintro wx wy va' vn' vc' hE stx rfl;rw[hEX] at hE;obtain⟨h1,h2,h3,h4,h5,h6⟩:=hE;rw[hS.out];refine⟨v',va',vn',vc',stx.putNC (by omega) h5 rfl,zEV h1 h5 rfl,by rw[World.putObj_size];exact h2,(World.putObj_heap_other (by omega)).trans h3,(World.putObj_heap_other (by omega)).trans h4,World.putObj_heap_same (zAG h5),(World.putObj_heap_other (by omega)).trans h6⟩
   clear hHne hEX hown3 hk3 hr13 st3 hMc hownc stc hr1c hd1c hr2c hd2c hneW hy hR;have HBit:=Lib.hid (fun wx=>zIC k Hk.out ((dp - 1 - j:Nat):Int) wx);have hβ:zDQ k ((dp - 1 - j:Nat):Int)=((zBO k (dp - 1 - j):Nat):Int):=by unfold zDQ;rw[if_pos ⟨by omega,by omega⟩];simp
   have hβ2:=zCQ k (dp - 1 - j);rw[hβ] at HBit;clear hβ;generalize zBO k (dp - 1 - j)=β at *;have Hbl:Hid (bl.length=32):=Hb;have HPut:Hid (zCT (kv (dg++dg)) (β*32) (.agg (kv bl))=kv (if β=0 then bl++dg else dg++bl)):=by
    unfold Hid;rw[kv_put]
    have:β=0∨β=1:=by omega
    rcases this with rfl | rfl
    ·simp[Hbl.out,Hdg.out]
    ·simp[Hbl.out,Hdg.out,List.drop_eq_nil_of_le]
   have HPl:Hid ((if β=0 then bl++dg else dg++bl).length=64):=by unfold Hid;split<;>simp[Hbl.out,Hdg.out]
   have Hbk:∀x∈bl,x<256:=by rw[←hbE];exact(belF_key _ _ _ _ _ _ _).2
   have Hdk:∀x∈dg,x<256:=by
    rw[←hdgE];intro x hx;exact HXb.out x (List.mem_of_mem_drop (List.mem_of_mem_take hx))
   have HPb:Hid (∀x∈1::(if β=0 then bl++dg else dg++bl),x<256):=by
    intro x hx;rcases List.mem_cons.1 hx with rfl | hx
    ·decide
    ·split at hx<;>rcases List.mem_append.1 hx with hx | hx<;>first | exact Hbk x hx | exact Hdk x hx
   clear Hbk Hdk;generalize (if β=0 then bl++dg else dg++bl)=PR at *;have Hd2:=Lib.hid (builtD2 dg dg Hdg.out Hdg.out);have Hs2:Hid ((Tryz.prog.info? 186).map (·.size)=some (kv (dg++dg)).size):=by unfold Hid;rw[sizeD2,zAF,List.length_append,Hdg.out]
   refine wpIn_seq ?_;refine zEJ (fun h=>by obtain⟨_,_,h⟩:=h;exact absurd h.1 (by simp)) (by decide) ?_
   go_wp2_with (first
    |(refine zAC rfl 38 _ rfl c9 rfl _ zEE rfl _ _ (st3'.at (i:=0) rfl) (zCA Hdg.out) ?_)
    |(refine zAM rfl 186 _ rfl [(0,.agg (kv dg)),(1,.agg (kv dg))] ?_ _ Hd2.out ?_;(·first | (simp[Act.eval,Act.put];done) | rfl))
    |(refine zCR st3' rfl 186 rfl _ zeroD2 ?_;intro c10 w4 st4 hc10 hbl4;have hE4:=hUp.out _ _ hEX3 hbl4;have hn10:=hLo.out _ c10 hEX3 (.inr hc10);clear st3' hEX3 hbl4)
    |(refine zAZ st4 rfl 186 _ _ rfl 0 c10 0 rfl (.agg (kv (dg++dg))) rfl _ _ rfl Hs2.out (by show 0+(kv (dg++dg)).size≤_;rw[zAF,List.length_append,Hdg.out,zAF];decide) (zBJ _) (kv (dg++dg)) ((zGC (by show (kv (dg++dg)).size=_;rw[zAF,List.length_append,Hdg.out,zAF];rfl)).trans rfl) _ rfl ?_;intro w5 st5 hg5;have hE5:=hTurn.out _ _ c10 _ _ hE4 (st4.at (i:=0) rfl) hn10 hg5;clear st4 hg5 hE4))
   have st5':StH w cb (c+2+(j:Nat)) [(c10,kv (dg++dg),186),(c9,kv dg,38),(Bs,#[.slice (some ⟨g,0,none⟩) dp dp],41),(c7,kv bl,38),(c6,#[.slice va vn vc],22),(c5,#[.func (.yield (w6.heap.size+1)) #[] #[]],252),(B7,kv k,37),(B6,#[.slice (some ⟨g,0,none⟩) dp dp],41),(B5,pc,43),(B4,#[.pointer (some ⟨hb,0,none⟩)],29),(b10,#[v'],41),(g,kv X,38),(b5,kv k,37),(b4,pc,43)] w5:=st5;clear st5;refine wpIn_seq ?_
   refine regionIn_mix2 (J:=fun wx=>StH w cb (c+2+(j:Nat)) [(c10,kv (dg++dg),186),(c9,kv dg,38),(Bs,#[.slice (some ⟨g,0,none⟩) dp dp],41),(c7,kv bl,38),(c6,#[.slice va vn vc],22),(c5,#[.func (.yield (w6.heap.size+1)) #[] #[]],252),(B7,kv k,37),(B6,#[.slice (some ⟨g,0,none⟩) dp dp],41),(B5,pc,43),(B4,#[.pointer (some ⟨hb,0,none⟩)],29),(b10,#[v'],41),(g,kv X,38),(b5,kv k,37),(b4,pc,43)] wx∧EX wx) 4 (fun wx=>StH w cb (c+2+(j:Nat)) [(c10,kv (dg++dg),186),(c9,kv dg,38),(Bs,#[.slice (some ⟨g,0,none⟩) dp dp],41),(c7,kv bl,38),(c6,#[.slice va vn vc],22),(c5,#[.func (.yield (w6.heap.size+1)) #[] #[]],252),(B7,kv k,37),(B6,#[.slice (some ⟨g,0,none⟩) dp dp],41),(B5,pc,43),(B4,#[.pointer (some ⟨hb,0,none⟩)],29),(b10,#[v'],41),(g,kv X,38),(b5,kv k,37),(b4,pc,43)] wx∧EX wx) (fun h=>by obtain⟨_,_,h⟩:=h;exact absurd h.1 (by simp)) (by decide) zBL (by kernel_rfl) ⟨st5'.drew,hUp.out _ _ hE5 (Below.refl _ _).drew⟩ ?_;intro F inv;clear st5' hE5;refine Mix2.good_batch (f:=0) F (fun wx wy h hb=>⟨St.call h.1 hb,hUp.out _ _ h.2 hb⟩) (fun _ h=>h) [0,1,2,3] _ _ inv (by kernel_rfl) ?_;clear inv
   (refine Mix.wpUp_cons rfl (fun K hK=>?_);go_simp;refine zFB 37 _ rfl B7 rfl _ zBF rfl _ _ (fun wx hw=>hw.1.at (i:=6) rfl) (zAX Hk.out.len) ?_
    refine hK _ ?_;clear hK K)
   iterate 1
    (refine Mix.wpUp_cons rfl (fun K hK=>?_);go_simp;apply zAU;· (intro wx hw;go_simp;(try go_ints);(try go_simp);(try (rw[if_pos (by omega)]));(try go_simp);(first | done | rfl))
     refine hK _ ?_;clear hK K)
   (refine Mix.wpUp_cons rfl (fun K hK=>?_);go_simp;refine zER 79 #[.agg (kv k),.int .i64 ((dp - 1 - j:Nat):Int)] ?_ (fun wx stx=>(HBit.out wx)) ?_;· (intro wx hw;go_simp)
    refine hK _ ?_;clear hK K)
   (refine Mix.wpUp_cons rfl (fun K hK=>?_);go_simp;refine zFB 38 _ rfl c7 rfl _ zEE rfl _ _ (fun wx hw=>hw.1.at (i:=3) rfl) (zCA Hbl.out) ?_
    refine hK _ ?_;clear hK K)
   refine Mix.wpUp_nil ?_;intro inv;clear inv F;refine⟨by kernel_rfl,fun w6' st6=>?_⟩;obtain⟨st6,hE6⟩:=st6;simp only[List.drop_succ_cons,List.drop_zero];have hβ0:(0:Int)≤(β:Nat):=by omega
   have hβ1:((β:Nat):Int)<2:=by omega
   have HNode:=Lib.hid (fun wx=>Node_calls (PR.take 32) (PR.drop 32) (by simp[HPl.out]) (by simp[HPl.out]) wx);rw[List.take_append_drop] at HNode;have HSum:=Lib.hid (fun v2 wx h1 h2 h3=>zHQ KK (1::PR) v2 hb cb bits (c+2+(j:Nat)) wx h1 HBb.out (by have:=Hcc.out;omega) HPb.out (by simp[HPl.out]) h2 h3);have HX1:Hid ((kv PR).extract 0 (0+32)=kv (PR.take 32)):=by unfold Hid;rw[zDY _ _ 32 (by rw[HPl.out];decide)];rfl
   have HX2:Hid ((kv PR).extract 32 (32+32)=kv (PR.drop 32)):=by unfold Hid;rw[zDY _ _ 32 (by rw[HPl.out];decide),List.take_of_length_le (by simp[HPl.out])]
   have hHk:=Lib.hid (zBG KK bits (1::PR)).len
   go_wp2_with (first
    |(refine zAZ st6 rfl 38 _ _ rfl 0 c10 (β*32) rfl (.agg (kv bl)) rfl _ _ rfl (zCA Hbl.out) (by show _+(kv bl).size≤_;rw[zAF,Hbl.out,zAF,List.length_append,Hdg.out];omega) (zBJ _) (kv PR) HPut.out _ rfl ?_;intro w7 st7 hg7;have hE7:=hTurn.out _ _ c10 _ _ hE6 (st6.at (i:=0) rfl) hn10 hg7;clear st6 hg7 hE6))
   have hlt6:=hlt12 c6 (by simp);have hlt7:=hlt12 c7 (by simp);refine wpIn_seq ?_;refine zEJ (fun h=>by obtain⟨_,_,h⟩:=h;exact absurd h.1 (by simp)) (by decide) ?_
   go_wp2_with (first
    |(refine zAP rfl 38 _ rfl c10 0 32 rfl zFZ _ _ _ (st7.at (i:=0) rfl) zBV (by rw[zAF,HPl.out];decide) _ HX1.out ?_)
    |(refine zAP rfl 38 _ rfl c10 32 32 rfl zFZ _ _ _ (st7.at (i:=0) rfl) zBV (by rw[zAF,HPl.out];decide) _ HX2.out ?_)
    |(go_at_call 138;refine(HNode.out _).mono ?_;rintro e w8 ⟨v9,rfl,hrd8,hbel8⟩;have st8:=St.call st7 hbel8;have hE8:=hUp.out _ _ hE7 hbel8;clear st7 hbel8 hE7;obtain⟨a9,cc9,rfl,_⟩:=hrd8.open)
    |(refine zAZ st8 rfl 22 _ _ rfl 4 c6 0 rfl (.slice a9 (1::PR).length cc9) rfl _ _ rfl sizeSlB (slice_le _ _ _ _) (slice_one _ _ _) (#[.slice a9 (1::PR).length cc9]) ((zGC rfl).trans rfl) _ rfl ?_;intro w9 st9 hg9;have hrd9:=hrd8.row_turn (st8.at (i:=4) rfl) (slice_no _ _ _) hg9;have hE9:=hTurn.out _ _ c6 _ _ hE8 (st8.at (i:=4) rfl) (hLo.out _ _ hE8 (.inl hlt6)) hg9;clear st8 hg9 hrd8 hE8))
   have hcB4:=st9.cell (i:=9) rfl 0;have hcc6:=st9.cell (i:=4) rfl 0;refine zEJ (fun h=>by obtain⟨_,_,h⟩:=h;exact absurd h.1 (by simp)) (by decide) ?_
   go_wp2_with (first
    |(go_at_call 82;refine(HSum.out (.slice a9 (1::PR).length cc9) _ (StH.has st9 HH.out) hrd9 (StH.hasK st9 HH.out HKK.out)).mono ?_;rintro e w10 ⟨rfl,hg10,hh10⟩;have st10:=StH.sum st9 HH.out hg10 hh10;have hE10:=hTurn.out _ _ cb _ _ hE9 (StH.has st9 HH.out).c (hLo.out _ _ hE9 (.inl hcbM)) hg10;clear hcB4 hcc6 st9 hrd9 hE9 hg10 hh10)
    |(refine zAZ st10 rfl 38 _ _ rfl 3 c7 0 rfl (.agg (kv (zBE KK bits (1::PR)))) rfl _ _ rfl (zCA hHk.out) (by show 0+(kv _).size≤_;rw[zAF,hHk.out,zAF,Hbl.out];decide) (zBJ _) (kv (zBE KK bits (1::PR))) ((zGC (by show (kv _).size=_;rw[zAF,hHk.out,zAF,Hbl.out])).trans rfl) _ rfl ?_;intro w11 st11 hg11;have hE11:=hTurn.out _ _ c7 _ _ hE10 (st10.at (i:=3) rfl) (hLo.out _ _ hE10 (.inl hlt7)) hg11;clear st10 hg11 hE10))
   rw[←hPR.out] at st11;have ej:c+2+(j:Nat)+1=c+2+((j+1:Nat):Int):=by omega
   rw[ej] at st11;exact⟨trivial,(hEnd.out _ hE11).2,hFin.out _ _ _ _ _ (hEnd.out _ hE11).1 st11.drop.drop rfl⟩
  have hcW2:∀j W,S j W→W.cell? ⟨Bs,0,none⟩=some (.slice (some ⟨g,0,none⟩) dp dp):=fun j W h=>by
   rw[hS.out] at h;obtain⟨v,va,vn,vc,stW,_⟩:=h;exact stW.cell (i:=0) rfl 0
  have hgW2:∀j W,S j W→W.heap[g]?=some (.cells (kv X) 38 (0,0)):=fun j W h=>by
   rw[hS.out] at h;obtain⟨v,va,vn,vc,stW,_⟩:=h;exact stW.at (i:=9) rfl
  refine(backD_in 3 (w15.heap.size+1) Bs g dp X 38 HX.out (by omega) S hcW2 hgW2 hYi W2 hS0).mono ?_;rintro e W' ⟨⟨ve,rfl⟩,hSd⟩;rw[hS.out] at hSd;obtain⟨v,va,vn,vc,stW,hown,hM,hr1,hd1',hr2,hd2'⟩:=hSd;clear hYi hcW2 hgW2 hS0 hS hY2;refine⟨⟨_,rfl⟩,hr2,fun o=>?_⟩;have stO:=stW.putNC (o':=.loop o) (by omega) hr2 rfl;have hownO:=zEV (o':=.loop o) hown hr2 rfl;have hr1O:=(World.putObj_heap_other (w:=W') (o:=.loop o) (by omega:w6.heap.size+1≠w15.heap.size+1)).trans hr1;have hd1O:=(World.putObj_heap_other (w:=W') (o:=.loop o) (by omega:w6.heap.size≠w15.heap.size+1)).trans hd1';have hd2O:=(World.putObj_heap_other (w:=W') (o:=.loop o) (by omega:w15.heap.size≠w15.heap.size+1)).trans hd2';have hMO:W2.heap.size≤(W'.putObj (w15.heap.size+1) (.loop o)).heap.size:=by rw[World.putObj_size];exact hM
  generalize W'.putObj (w15.heap.size+1) (.loop o)=Wo at *;clear hr1 hd1' hr2 hd2' hM hown stW;have hneO:∀p∈([(Bs,#[.slice (some ⟨g,0,none⟩) dp dp],41),(c7,kv (belF KK bits ef k X dp dp),38),(c6,#[.slice va vn vc],22),(c5,#[.func (.yield (w6.heap.size+1)) #[] #[]],252),(B7,kv k,37),(B6,#[.slice (some ⟨g,0,none⟩) dp dp],41),(B5,pc,43),(B4,#[.pointer (some ⟨hb,0,none⟩)],29),(b10,#[v],41),(g,kv X,38),(b5,kv k,37),(b4,pc,43)]:List (Nat×Array Value×TypeId)),v.ownBlock≠some p.1:=by
   intro p hp e;have h1:=hownO.lt p.1 e
   have:=hlt12 p.1 (List.mem_map_of_mem hp);omega
  have Hb:Hid ((belF KK bits ef k X dp dp).length=32):=(belF_key KK bits ef k X dp dp).len;have Hbx:Hid ((kv (belF KK bits ef k X dp dp)).extract 0 (0+32)=kv (belF KK bits ef k X dp dp)):=by unfold Hid;rw[zDY _ _ 32 (by rw[Hb.out];decide)];simp[Hb.out,List.take_of_length_le]
  have hY6:=HYo.out w.heap.size W2.heap.size _ _ 8 v (.slice va vn vc) dp (zAJ (stepsF KK bits ef k X dp dp)) (belF KK bits ef k X dp dp) Wo stO rfl hneO (hlt12 b10 (by simp)) (by omega) (by omega) hMO (by omega) Hb.out hownO hr1O;obtain⟨fn,tmps,assign,body,hy,hR⟩:=hY6;generalize hbE:belF KK bits ef k X dp dp=bl at *;have hc5c:=stO.cell (i:=3) rfl 0;have hc6c:=stO.cell (i:=2) rfl 0;go_upto_region 11 with (first | (fail "none"))
  refine(wpIn_wide (n:=4)).1 ?_;refine wpIn_region_lit ?_
  gi_wp2_with (first
   |(refine wpListIn_loadP rfl 38 _ rfl c7 0 32 rfl zFZ _ _ _ (stO.at (i:=1) rfl) zBV (by rw[zAF,Hb.out];decide) _ Hbx.out ?_))
  refine RoundIn.mono hR ?_;rintro e W3 ⟨rfl,v',st3,hown3,hk3,hr13⟩;go_simp
  iterate 2 gi_step
  have st3':StH w cb (c+2+(dp:Nat)) ([(Bs,#[.slice (some ⟨g,0,none⟩) dp dp],41),(c7,kv bl,38),(c6,#[.slice va vn vc],22),(c5,#[.func (.yield (w6.heap.size+1)) #[] #[]],252),(B7,kv k,37),(B6,#[.slice (some ⟨g,0,none⟩) dp dp],41),(B5,pc,43),(B4,#[.pointer (some ⟨hb,0,none⟩)],29),(b10,#[v'],41),(g,kv X,38),(b5,kv k,37),(b4,pc,43)]) W3:=st3;have hd23:=hk3.2 _ _ hd2O rfl (by omega);have hd13:=hk3.2 _ _ hd1O rfl (by omega);refine endM w15.heap.size rfl hd23 (results_none rfl _ _ _) ⟨⟨_,rfl⟩,v',W2.heap.size,?_,?_,?_,?_⟩
  ·exact(St.few st3' (L':=[(b10,#[v'],41)]) (by simp) (by simp)).putDef (by omega) hd23
  ·rw[stepsF_succ,zCB,hbE]
   exact zEV hown3 hd23 rfl
  ·exact(World.putObj_heap_other (by omega)).trans hr13
  ·exact(World.putObj_heap_other (by omega)).trans hd13
 clear HYo;refine hWays.mono ?_;rintro e W' ⟨⟨ve,rfl⟩,v,M,stW,hown,hr1,hd1'⟩;clear hWays;refine⟨⟨_,rfl⟩,hr1,fun o=>?_⟩;have stO:=stW.putNC (o':=.loop o) (by omega) hr1 rfl;have hownO:=zEV (o':=.loop o) hown hr1 rfl;have hd1O:=(World.putObj_heap_other (w:=W') (o:=.loop o) (by omega:w6.heap.size≠w6.heap.size+1)).trans hd1';generalize W'.putObj (w6.heap.size+1) (.loop o)=Wo at *;clear hr1 hd1' hown stW;have hc10:=stO.cell (i:=0) rfl 0;go_wp2;refine retM w6.heap.size rfl hd1O ⟨rfl,_,results_tmp2 rfl _ _ _,v,rfl,?_,?_,?_⟩
 ·exact RdD.own (stepsF_len _ _ _ _ _ _ _) (by omega) (zEV hownO hd1O rfl)
 ·exact StH.grown (stO.putDef (by omega) hd1O)
 ·exact StH.has (stO.putDef (by omega) hd1O) HH.out
end
section
set_option maxHeartbeats 400000
open Go Go.RowKit
attribute [local irreducible] Inv.wpInv Mix.wpUp
theorem stepsF_last(KK:List Int)(bits:Int)(e k X:List Nat)(dp i:Nat)(hi:i<32):(stepsF KK bits e k X dp (dp+1)).getD (dp*32+i) 0=(belF KK bits e k X dp dp).getD i 0:=by
 have h:=stepsF_len KK bits e k X dp dp;rw[stepsF_succ,List.getD_eq_getElem?_getD,List.getElem?_append_right (by omega),h,List.getD_eq_getElem?_getD]
 congr 2
 omega
set_option maxRecDepth 20000 in
theorem Root_calls(KK:List Int)(kd:Int)(dp:Nat)(lf bm sib k:List Nat)(av:Option Addr)(n cv:Nat)(hl:lf.length=64)(hlb:∀x∈lf,x<256)(hk:Key bm)(hkk:Key k)(hsb:∀x∈sib,x<256)(hck:zGV kd dp lf bm n=0)(hb cb:Nat)(bits c:Int)(w:World)(hh:HasH hb cb bits c w)(hB:0≤bits∧bits≤256)
  (hc : -4611686018427387904≤c∧c≤1000000) (hK:HasK KK w) (hs:RdD w (.slice av n cv) n sib) :
  Calls Tryz.prog 19 #[.pointer (some ⟨hb,0,none⟩),.agg (zAB kd dp lf bm (.slice av n cv)),.agg (kv k)] w
   fun e w'=>e=.returned (.tuple #[.agg (kv (belF KK bits (endF kd lf) k (expF (zBE KK bits [3]) dp (setB bm) sib) dp dp)),.int .i64 0])∧w.grownBy w' (some cb)∧HasH hb cb bits (c+2+dp) w':=by
 have HH:=Lib.hid hh;have HKK:=Lib.hid hK;obtain⟨hd0,hd1,_,_⟩:=check_ok hck;have HE:=Lib.hid (fun wx h1 h2 h3=>Steps_calls KK kd dp lf bm sib k av n cv hl hlb hk hkk hsb hck hb cb bits c wx h1 hB hc h2 h3);have HS:Hid ((zAB kd dp lf bm (.slice av n cv)).size=99):=zAO hl hk.len;have HRd:=Lib.hid hs;have Hk:=Lib.hid hkk;clear hh hK hk hck hs hc hkk hsb hlb hl hB;have Hst:=Lib.hid (stepsF_last KK bits (endF kd lf) k (expF (zBE KK bits [3]) dp (setB bm) sib) dp);have Hbl:=Lib.hid (belF_key KK bits (endF kd lf) k (expF (zBE KK bits [3]) dp (setB bm) sib) dp dp);generalize belF KK bits (endF kd lf) k (expF (zBE KK bits [3]) dp (setB bm) sib) dp dp=bl at *;generalize stepsF KK bits (endF kd lf) k (expF (zBE KK bits [3]) dp (setB bm) sib) dp (dp+1)=sf at *;generalize zAB kd dp lf bm (.slice av n cv)=pc at *;obtain⟨dP,hdP,haP⟩:=zGE;have st:=St.init w;go_enter Tryz.func19,Tryz.ntmps19;go_upto_region 2 with (first
  |(refine zAD st rfl 43 _ rfl pc rfl ?_;intro b4 w1 st1;clear st)
  |(refine zAD st1 rfl 37 _ rfl (kv k) rfl ?_;intro b5 w2 st2;clear st1)
  |(refine zAE st2 rfl 38 rfl _ zCG ?_;intro b6 w2' st2';clear st2;have st3:=StH.init HH.out st2')
  |(refine zAC rfl 43 _ rfl b4 rfl _ hdP haP _ _ (st3.at (i:=2) rfl) (zAQ HS.out) ?_)
  |(refine zAC rfl 37 _ rfl b5 rfl _ zBF rfl _ _ (st3.at (i:=1) rfl) (zAX Hk.out.len) ?_)
  |(go_at_call 46;refine(HE.out _ (StH.has st3 HH.out) (StH.hasK st3 HH.out HKK.out) (HRd.out.turn HH.out.c (StH.grown st3))).mono ?_;rintro e w4 ⟨v4,rfl,hrd4,hg4,hh4⟩;have st4:=StH.sum st3 HH.out hg4 hh4;clear st3 st2' hg4 hh4;obtain⟨_,_,h4⟩:=hrd4;obtain⟨b,off,cap,rfl,h5⟩:=h4.resolve_left (by rintro⟨h0,_⟩;omega);clear h4))
 go_upto_region 4 with (first | (fail "x"))
 have Hcc:Hid (∀wx:World,(∀i,i<32*(dp+1)→wx.cell? ⟨b,off+i,none⟩=some (.int .u8 (sf.getD i 0:Nat)))→∀i,i<bl.length→wx.cell? ⟨b,off+dp*32+i,none⟩=some (.int .u8 (bl.getD i 0:Nat))):=by
  intro wx h i hi;rw[Hbl.out.len] at hi;rw[←Hst.out i hi,Nat.add_assoc];exact h _ (by omega)
 have hcell:∀i,i<bl.length→w4.cell? ⟨b,off+(dp+1 - 1)*32+i,none⟩=some (.int .u8 (bl.getD i 0:Nat)):=Hcc.out _ h5;clear Hcc h5 Hst;have hn1:(1:Int)≤((dp+1:Nat):Int):=by omega
 have hn2:((dp+1:Nat):Int)≤257:=by omega
 generalize dp+1=n1 at *;have hn4:(0:Int)≤(n1:Int) - 1:=by omega
 have hn5:(n1:Int) - 1<n1:=by omega
 have Hcell:=Lib.hid hcell;clear hcell
 go_wp2_with (first
  |(refine wpList_loadB rfl 38 _ rfl b (off+(n1 - 1)*32) 32 rfl zFZ zBV bl (by rw[Hbl.out.len];exact Nat.le_refl _) Hcell.out ?_;rw[List.take_of_length_le (Nat.le_of_eq Hbl.out.len)])
  |(refine zAA st4 rfl 38 _ _ rfl 0 b6 rfl (.agg (kv bl)) rfl _ _ rfl (zCA Hbl.out.len) (by show (kv bl).size=_;rw[zAF,Hbl.out.len,zAF];rfl) (zBJ _) _ rfl ?_;intro w5 st5;clear st4))
 exact zEP rfl b6 _ _ zFZ rfl (st5.at (i:=0) rfl) (zCA Hbl.out.len) _ rfl rfl ⟨rfl,StH.grown st5,StH.has st5 HH.out⟩
end
section
set_option maxHeartbeats 1000000
open Go Go.RowKit
attribute [local irreducible] Inv.wpInv Mix.wpUp
def ckR(h r k v:Value)(p:Bool)(b:Value)(pc:Array Value):Array Value:=(#[h,r,k,v,.bool p,b]:Array Value)++pc
section
variable {h r k v b:Value} {p:Bool} {pc:Array Value}
theorem ckR_size:(ckR h r k v p b pc).size=6+pc.size:=by simp[ckR]
theorem ckR_0:(ckR h r k v p b pc)[0]?=some h:=by simp[ckR,Array.getElem?_append]
theorem ckR_1:(ckR h r k v p b pc)[1]?=some r:=by simp[ckR,Array.getElem?_append]
theorem ckR_2:(ckR h r k v p b pc)[2]?=some k:=by simp[ckR,Array.getElem?_append]
theorem ckR_3:(ckR h r k v p b pc)[3]?=some v:=by simp[ckR,Array.getElem?_append]
theorem ckR_4:(ckR h r k v p b pc)[4]?=some (.bool p):=by simp[ckR,Array.getElem?_append]
theorem ckR_5:(ckR h r k v p b pc)[5]?=some b:=by simp[ckR,Array.getElem?_append]
theorem ckR_put{pc':Array Value}(hs:pc.size=99)(hs':pc'.size=99):zCT (ckR h r k v p b pc) 6 (.agg pc')=ckR h r k v p b pc':=by
 have e:=zEB [h,r,k,v,.bool p,b] pc.toList [] (.agg pc') 6 rfl (by simp[Value.cells,hs,hs']);have e1:([h,r,k,v,.bool p,b]++(pc.toList++[])).toArray=ckR h r k v p b pc:=by apply Array.ext';simp[ckR]
 rw[e1] at e;rw[e];apply Array.ext';simp[ckR,Value.cells]
theorem ckR_proof(hs:pc.size=99):(ckR h r k v p b pc).extract 6 (6+99)=pc:=by
 have e:=zHM [h,r,k,v,.bool p,b] pc.toList [] 6 99 rfl (by simp[hs]);have e1:([h,r,k,v,.bool p,b]++(pc.toList++[])).toArray=ckR h r k v p b pc:=by apply Array.ext';simp[ckR]
 rw[e1] at e;rw[e]
end
theorem When_calls(b:Bool)(c:Int)(w:World) :
  Calls Tryz.prog 95 #[.bool b,.int .i64 c] w fun e w'=>e=.returned (.int .i64 (if b then c else 0))∧w'=w:=by
 cases b
 ·go_enter Tryz.func95,Tryz.ntmps95
  go_wp2;go_ret;exact⟨rfl,rfl⟩
 ·go_enter Tryz.func95,Tryz.ntmps95
  go_wp2;go_ret;exact⟨rfl,rfl⟩
section
variable (h k v v' b:Value) (p:Bool) (pc:Array Value) (Kb:Nat)
theorem Step1_calls(ra:Option Addr)(rn rc:Nat)(hrn:rn≤maxLen)(w:World)(hrow:w.heap[Kb]?=some (.cells (ckR h (.slice ra rn rc) k v p b pc) 131 (0,0))) :
  Calls Tryz.prog 94 #[.pointer (some ⟨Kb,0,none⟩)] w fun e w'=>e=.returned (.int .i64 (if rn=32 then 0 else 4))∧w'=w:=by
 have hc:w.cell? ⟨Kb,1,none⟩=some (.slice ra rn rc):=by simp[World.cell?,hrow,ckR_1]
 have hW:=Lib.hid (fun b c wx=>When_calls b c wx);clear hrow;unfold maxLen at hrn
 by_cases e:rn=32
 ·subst e
  go_enter Tryz.func94,Tryz.ntmps94
  go_wp2_with (first
   |(go_at_call 95;refine(hW.out _ _ _).mono ?_;rintro e w1 ⟨rfl,rfl⟩))
  go_ret;exact⟨by simp,rfl⟩
 ·have e1:((rn:Nat):Int)≠32:=by omega
  go_enter Tryz.func94,Tryz.ntmps94
  go_wp2_with (first
   |(go_at_call 95;refine(hW.out _ _ _).mono ?_;rintro e w1 ⟨rfl,rfl⟩))
  go_ret;exact⟨by simp,rfl⟩
theorem Step2_calls(ka:Option Addr)(kn kc:Nat)(hkn:kn≤maxLen)(w:World)(hrow:w.heap[Kb]?=some (.cells (ckR h k (.slice ka kn kc) v p b pc) 131 (0,0))) :
  Calls Tryz.prog 96 #[.pointer (some ⟨Kb,0,none⟩)] w fun e w'=>e=.returned (.int .i64 (if kn=32 then 0 else 2))∧w'=w:=by
 have hc:w.cell? ⟨Kb,2,none⟩=some (.slice ka kn kc):=by simp[World.cell?,hrow,ckR_2]
 have hW:=Lib.hid (fun b c wx=>When_calls b c wx);clear hrow;unfold maxLen at hkn
 by_cases e:kn=32
 ·subst e
  go_enter Tryz.func96,Tryz.ntmps96
  go_wp2_with (first
   |(go_at_call 95;refine(hW.out _ _ _).mono ?_;rintro e w1 ⟨rfl,rfl⟩))
  go_ret;exact⟨by simp,rfl⟩
 ·have e1:((kn:Nat):Int)≠32:=by omega
  go_enter Tryz.func96,Tryz.ntmps96
  go_wp2_with (first
   |(go_at_call 95;refine(hW.out _ _ _).mono ?_;rintro e w1 ⟨rfl,rfl⟩))
  go_ret;exact⟨by simp,rfl⟩
theorem Step3_calls(va:Option Addr)(vn vc:Nat)(hvn:vn≤maxLen)(w:World)(hrow:w.heap[Kb]?=some (.cells (ckR h k v (.slice va vn vc) p b pc) 131 (0,0))) :
  Calls Tryz.prog 97 #[.pointer (some ⟨Kb,0,none⟩)] w fun e w'=>(e=.returned (.int .i64 0)∨(e=.returned (.int .i64 3)∧65535<vn))∧w'=w:=by
 have hc:w.cell? ⟨Kb,3,none⟩=some (.slice va vn vc):=by simp[World.cell?,hrow,ckR_3]
 have hp:w.cell? ⟨Kb,4,none⟩=some (.bool p):=by simp[World.cell?,hrow,ckR_4]
 have hW:=Lib.hid (fun b c wx=>When_calls b c wx);clear hrow;unfold maxLen at hvn
 cases p
 ·go_enter Tryz.func97,Tryz.ntmps97
  go_wp2_with (first
   |(go_at_call 95;refine(hW.out _ _ _).mono ?_;rintro e w1 ⟨rfl,rfl⟩))
  go_ret
  first | exact⟨.inl rfl,rfl⟩ | exact⟨rfl,rfl⟩
 ·by_cases e:65535<vn
  ·have e1:(65535:Int)<(vn:Nat):=by omega
   go_enter Tryz.func97,Tryz.ntmps97
   go_wp2_with (first
    |(go_at_call 95;refine(hW.out _ _ _).mono ?_;rintro e w1 ⟨rfl,rfl⟩))
   go_ret
   first | exact⟨.inr ⟨by simp,e⟩,rfl⟩ | exact⟨.inr (by simp),rfl⟩
  ·have e1:((vn:Nat):Int)≤65535:=by omega
   go_enter Tryz.func97,Tryz.ntmps97
   go_wp2_with (first
    |(go_at_call 95;refine(hW.out _ _ _).mono ?_;rintro e w1 ⟨rfl,rfl⟩))
   go_ret
   first | exact⟨.inl (by simp),rfl⟩ | exact⟨by simp,rfl⟩ | exact⟨rfl,rfl⟩
theorem below_then{w w1 w2:World}{row:Option Nat}(hb:Below w.heap.size w w1)(hg:w1.grownBy w2 row):w.grownBy w2 row :=
 ⟨hg.os.trans hb.os,hg.tape.trans hb.tape,hg.output.trans hb.output,Nat.le_trans hb.size hg.size,fun i hi hr=>(hg.block i (Nat.lt_of_lt_of_le hi hb.size) hr).trans (hb.block i hi)⟩
theorem RdD.turnNe{w w2:World}{cb:Nat}{v:Value}{n:Nat}{l:List Nat}(h:RdD w v n l)(hg:w.grownBy w2 (some cb))(hne:v.ownBlock≠some cb):RdD w2 v n l:=by
 refine⟨h.1,h.2.1,?_⟩;rcases h.2.2 with h | ⟨b,off,cap,rfl,hcc⟩
 ·exact .inl h
 ·refine .inr ⟨b,off,cap,rfl,fun i hi=>?_⟩
  have h1:=hcc i hi;refine(World.cell?_of_block (w:=w) (hg.block b (zAS h1) ?_)).trans h1;intro e;obtain rfl:b=cb:=Option.some.inj e;exact hne rfl
def Decd(l:List Nat)(c:Int)(pc:Array Value)(w:World):Prop :=
 (c=0∧decOk l∧∃s,pc=zAB (kdOf l) (dpOf l) (lfOf l) (bmOf l) s∧RdD w s ((zFP l).length / 32) (zFP l))∨((c=5∨c=6∨c=7)∧pc.size=99∧¬decOk l)
theorem DecPost.uni{l:List Nat}{w w':World}{e:Ending}(h:DecPost l w e w'):∃pc c,e=.returned (.tuple #[.agg pc,.int .i64 c])∧pc.size=99∧(∀u∈pc.toList,u.oneCell'=true)∧(∀b w2,b<w.heap.size→w'.grownBy w2 (some b)→Decd l c pc w2)∧Below w.heap.size w w':=by
 rcases h with ⟨⟨hok,s,rfl,hrd,hfr⟩ | ⟨hno,c,hc,rfl⟩,hb⟩
 ·obtain⟨a,cc,rfl⟩:=hrd.open
  have hlf:(lfOf l).length=64:=by
   unfold lfOf
   split
   ·rename_i h1
    have:=hok.2.2.1 h1;simp;omega
   ·simp
  have hbm:(bmOf l).length=32:=by unfold bmOf;have:=hok.1;simp;omega
  refine⟨_,0,rfl,zAO hlf hbm,zDI rfl,fun b w2 hlt hg=>.inl ⟨rfl,hok,_,rfl,hrd.turnNe hg (fun e=>?_)⟩,hb⟩
  have:=hfr b e;omega
 ·exact⟨_,c,rfl,zAO zCZ rfl,zDI rfl,fun b w2 _ _=>.inr ⟨hc,zAO zCZ rfl,hno⟩,hb⟩
set_option maxRecDepth 20000 in
theorem Step4_calls(l:List Nat)(hby:∀x∈l,x<256)(hpc:pc.size=99)(w:World)(hb:RdS w b l)(hrow:w.heap[Kb]?=some (.cells (ckR h k v v' p b pc) 131 (0,0))) :
  Calls Tryz.prog 98 #[.pointer (some ⟨Kb,0,none⟩)] w fun e w'=>∃c pc',e=.returned (.int .i64 c)∧pc'.size=99∧Decd l c pc' w'∧w'.heap[Kb]?=some (.cells (ckR h k v v' p b pc') 131 (0,0))∧w.grownBy w' (some Kb):=by
 have hc:w.cell? ⟨Kb,5,none⟩=some b:=by simp[World.cell?,hrow,ckR_5]
 have HD:=Lib.hid (Decode_calls l b hby w hb);have HR:=Lib.hid hrow;have hlt:=zAG hrow;have Hp:=Lib.hid hpc;clear hrow hb hpc;go_enter Tryz.func98,Tryz.ntmps98
 go_wp2_with (first
  |(go_at_call 12;refine HD.out.mono ?_;intro e w1 hd;obtain⟨pc',c,rfl,hs',h1,hd',hbel⟩:=hd.uni;clear hd;have hr1:=(hbel.block _ hlt).trans HR.out;have Hs':=Lib.hid hs';have H1:=Lib.hid h1;have Hd':=Lib.hid hd';clear hs' h1 hd' hc)
  |(refine wpList_storePX rfl 43 _ _ rfl Kb 6 rfl (.agg pc') rfl _ _ hr1 (zAQ Hs'.out) (by show 6+pc'.size≤_;rw[ckR_size,Hs'.out,Hp.out];exact Nat.le_refl _) H1.out _ (ckR_put Hp.out Hs'.out) ?_;intro w2 hg2 hr2))
 go_ret;exact⟨c,pc',rfl,Hs'.out,Hd'.out _ _ hlt hg2,hr2,below_then hbel hg2⟩
end
end
end Go.Proofs.YtlcngapphloafaaGreatDoor
