/- Parts of the proof that are used by the claim: Plain, Pre, BmPlain. No condition is added here. -/
import Derived.Test.YtlcngapphloafaaGreatDoorPk2
import Derived.Lib.BitFns
namespace Go.Proofs.YtlcngapphloafaaGreatDoor
section
open Go Go.RowKit
def zEX(a b:List Nat):Nat:=(List.range 256).findIdx fun n=>zBO a n != zBO b n
theorem comN_le(a b:List Nat):zEX a b≤256:=by
 have:=List.findIdx_le_length (xs:=List.range 256) (p:=fun n=>zBO a n != zBO b n)
 simpa[zEX] using this
theorem comN_same(a b:List Nat)(j:Nat)(h:j<zEX a b):zBO a j=zBO b j:=by
 have h1:=comN_le a b;have h2:=List.not_of_lt_findIdx (xs:=List.range 256) (p:=fun n=>zBO a n != zBO b n) (i:=j) h
 simpa using h2
theorem zJD(a b:List Nat)(h:zEX a b<256):zBO a (zEX a b)≠zBO b (zEX a b):=by
 have h2:=List.findIdx_getElem (xs:=List.range 256) (p:=fun n=>zBO a n != zBO b n) (w:=by simpa[zEX] using h)
 simpa[zEX] using h2
theorem comN_unique(a b:List Nat)(n:Nat)(hn:n≤256)(h1:∀j<n,zBO a j=zBO b j)(h2:n<256→zBO a n≠zBO b n):zEX a b=n:=by
 rcases Nat.lt_trichotomy (zEX a b) n with h | h | h
 ·exact absurd (h1 _ h) (zJD a b (by omega))
 ·exact h
 ·have:=comN_le a b
  exact absurd (comN_same a b n h) (h2 (by omega))
theorem byte_bits:∀x<256,x=x / 2^7%2*128+x / 2^6%2*64+x / 2^5%2*32+x / 2^4%2*16+x / 2^3%2*8+x / 2^2%2*4+x / 2^1%2*2+x / 2^0%2:=by decide +kernel
theorem byte_ext{x y:Nat}(hx:x<256)(hy:y<256)(h:∀r<8,x / 2^(7 - r)%2=y / 2^(7 - r)%2):x=y:=by
 rw[byte_bits x hx,byte_bits y hy];have h0:=h 0 (by omega);have h1:=h 1 (by omega);have h2:=h 2 (by omega);have h3:=h 3 (by omega);have h4:=h 4 (by omega);have h5:=h 5 (by omega);have h6:=h 6 (by omega);have h7:=h 7 (by omega);simp only[Nat.sub_zero,Nat.reduceSub] at h0 h1 h2 h3 h4 h5 h6 h7;rw[h0,h1,h2,h3,h4,h5,h6,h7]
theorem zHO(l:List Nat)(k r:Nat)(hr:r<8):zBO l (8*k+r)=l.getD k 0 / 2^(7 - r)%2:=by
 unfold zBO;rw[show (8*k+r) / 8=k by omega,show (8*k+r)%8=r by omega]
theorem getD_ext{a b:List Nat}(h:a.length=b.length)(he:∀k<a.length,a.getD k 0=b.getD k 0):a=b:=by
 apply List.ext_getElem h;intro k h1 h2
 have:=he k h1
 simpa[List.getD_eq_getElem?_getD,h1,h2] using this
theorem key_ext{a b:List Nat}(ha:Key a)(hb:Key b)(h:∀j<256,zBO a j=zBO b j):a=b:=by
 refine getD_ext (by rw[ha.len,hb.len]) fun k hk=>?_
 rw[ha.len] at hk;refine byte_ext (ha.get k) (hb.get k) fun r hr=>?_
 rw[←zHO a k r hr,←zHO b k r hr];exact h _ (by omega)
theorem comN_256{a b:List Nat}(ha:Key a)(hb:Key b):zEX a b=256↔a=b:=by
 constructor
 ·intro h;exact key_ext ha hb fun j hj=>comN_same a b j (by omega)
 ·rintro rfl
  exact comN_unique a a 256 (Nat.le_refl _) (fun _ _=>rfl) (fun h=>absurd h (by omega))
theorem xor_bit(x y s:Nat):(x ^^^ y) / 2^s%2=1↔x / 2^s%2≠y / 2^s%2:=by
 have h:=Nat.testBit_xor x y s;rw[Nat.testBit_eq_decide_div_mod_eq,Nat.testBit_eq_decide_div_mod_eq,Nat.testBit_eq_decide_div_mod_eq] at h;have h1:x / 2^s%2<2:=Nat.mod_lt _ (by decide);have h2:y / 2^s%2<2:=Nat.mod_lt _ (by decide);generalize x / 2^s%2=p at *;generalize y / 2^s%2=q at *;generalize (x ^^^ y) / 2^s%2=r at *;have hp:p=0∨p=1:=by omega
 have hq:q=0∨q=1:=by omega
 rcases hp with rfl | rfl<;>rcases hq with rfl | rfl<;>simp at h<;>simp[h]
theorem lead_bits:∀d<256,d≠0→Lib.bitLen d≤8∧1≤Lib.bitLen d∧d / 2^(Lib.bitLen d - 1)%2=1∧∀s<8,Lib.bitLen d≤s→d / 2^s%2=0:=by decide +kernel
theorem com_at{a b:List Nat}(ha:Key a)(hb:Key b)(k:Nat)(hk:k<32)(hpre:∀j<k,a.getD j 0=b.getD j 0)(hd:a.getD k 0 ^^^ b.getD k 0≠0) :
  zEX a b=8*k+(8 - Lib.bitLen (a.getD k 0 ^^^ b.getD k 0)):=by
 have hlt:a.getD k 0 ^^^ b.getD k 0<256:=Nat.xor_lt_two_pow (n:=8) (ha.get k) (hb.get k);obtain⟨h1,h2,h3,h4⟩:=lead_bits _ hlt hd;refine comN_unique a b _ (by omega) (fun j hj=>?_) (fun _=>?_)
 ·by_cases hjk:j<8*k
  ·unfold zBO
   rw[hpre (j / 8) (by omega)]
  ·obtain⟨r,rfl⟩:∃r,j=8*k+r:=⟨j - 8*k,by omega⟩
   rw[zHO a k r (by omega),zHO b k r (by omega)];have h5:=h4 (7 - r) (by omega) (by omega);have h6:=xor_bit (a.getD k 0) (b.getD k 0) (7 - r)
   by_cases he:a.getD k 0 / 2^(7 - r)%2=b.getD k 0 / 2^(7 - r)%2
   ·exact he
   ·have:=h6.2 he;omega
 ·rw[zHO a k _ (by omega),zHO b k _ (by omega)]
  refine(xor_bit _ _ _).1 ?_;rw[show 7 - (8 - Lib.bitLen (a.getD k 0 ^^^ b.getD k 0))=Lib.bitLen (a.getD k 0 ^^^ b.getD k 0) - 1 by omega];exact h3
theorem xor_zero{x y:Nat}(h:x ^^^ y=0):x=y:=by
 apply Nat.eq_of_testBit_eq;intro i;have h1:=congrArg (·.testBit i) h;simp only[Nat.testBit_xor,Nat.zero_testBit] at h1
 cases h2:x.testBit i<;>cases h3:y.testBit i<;>simp[h2,h3] at h1 ⊢
def zDV:List Nat→List Nat→Int
 |x::a,y::b=>if x<y then -1 else if y<x then 1 else zDV a b
 |_,_=>0
theorem cmpL_self(a:List Nat):zDV a a=0:=by
 induction a with
 |nil=>rfl
 |cons x a ih=>simp[zDV,ih]
theorem zJE:∀(a b:List Nat),zDV b a = - zDV a b
 |[],[]=>rfl
 |[],_::_=>rfl
 |_::_,[]=>rfl
 |x::a,y::b=>by
  simp only[zDV]
  by_cases h:x<y
  ·rw[if_pos h,if_neg (by omega),if_pos h];rfl
  ·by_cases h2:y<x
   ·rw[if_pos h2,if_neg h,if_pos h2]
   ·rw[if_neg h2,if_neg h,if_neg h,if_neg h2];exact zJE a b
theorem cmpL_at:∀(a b:List Nat)(k:Nat),a.length=b.length→k<a.length→(∀j<k,a.getD j 0=b.getD j 0)→a.getD k 0≠b.getD k 0 →
  zDV a b=if a.getD k 0<b.getD k 0 then -1 else 1
 |[],_,k,_,hk,_,_=>by simp at hk
 |_::_,[],k,hl,_,_,_=>by simp at hl
 |x::a,y::b,0,_,_,_,hd=>by
  simp only[List.getD_cons_zero] at hd ⊢;simp only[zDV]
  by_cases h:x<y
  ·rw[if_pos h,if_pos h]
  ·rw[if_neg h,if_pos (by omega),if_neg h]
 |x::a,y::b,k+1,hl,hk,hp,hd=>by
  have h0:=hp 0 (by omega);simp only[List.getD_cons_zero] at h0;subst h0;simp only[List.getD_cons_succ] at hd ⊢;simp only[zDV,Nat.lt_irrefl,if_false];exact cmpL_at a b k (by simpa using hl) (by simpa using hk) (fun j hj=>by have:=hp (j+1) (by omega);simpa using this) hd
theorem cmpL_same:∀(a b:List Nat),a.length=b.length→(∀j<a.length,a.getD j 0=b.getD j 0)→zDV a b=0:=fun a b hl h=>by
 rw[getD_ext hl h];exact cmpL_self b
end
section
open Go Go.RowKit
def keepN(c i:Nat):Nat:=min (c - 8*i) 8
def maskN(x m:Nat):Nat:=x / 2^(8 - m)*2^(8 - m)
def preC(l:List Nat)(c:Nat):List Nat:=(List.range 32).map fun i=>maskN (l.getD i 0) (keepN c i)
def zCV(n:Int):Nat:=min n.toNat 256
theorem mask_bits:∀m≤8,∀r<8,∀x<256,maskN x m / 2^(7 - r)%2=if r<m then x / 2^(7 - r)%2 else 0:=by decide +kernel
theorem mask_le(x m:Nat):maskN x m≤x:=Nat.div_mul_le_self _ _
theorem mask_and:∀s≤8,∀x<256,x &&& (255*2^s%256)=maskN x (8 - s):=by decide +kernel
theorem preC_get(l:List Nat)(c i:Nat)(h:i<32):(preC l c).getD i 0=maskN (l.getD i 0) (keepN c i):=by
 unfold preC;rw[List.getD_eq_getElem?_getD,List.getElem?_map,List.getElem?_range h];rfl
theorem Key.pre{l:List Nat}(h:Key l)(c:Nat):Key (preC l c) :=
 ⟨by simp[preC],fun x hx=>by
  unfold preC at hx;obtain⟨i,_,rfl⟩:=List.mem_map.1 hx;exact Nat.lt_of_le_of_lt (mask_le _ _) (h.get i)⟩
theorem zIU(l:List Nat)(j:Nat):zBO l j=l.getD (j / 8) 0 / 2^(7 - j%8)%2:=rfl
theorem preC_bit{l:List Nat}(h:Key l)(c j:Nat)(hj:j<256):zBO (preC l c) j=if j<c then zBO l j else 0:=by
 rw[zIU,preC_get l c (j / 8) (by omega),mask_bits _ (by unfold keepN;omega) _ (by omega) _ (h.get _)]
 by_cases hc:j<c
 ·rw[if_pos hc,if_pos (by unfold keepN;omega),zIU]
 ·rw[if_neg hc,if_neg (by unfold keepN;omega)]
structure IsPre (l:List Nat)(c:Nat)(cur:List Nat):Prop where
 key:Key cur
 bit:∀j<256,zBO cur j=if j<c then zBO l j else 0
theorem isPre_start{l:List Nat}(h:Key l):IsPre l 256 l:=⟨h,fun j hj=>by rw[if_pos hj]⟩
theorem isPre_end{l cur:List Nat}(hl:Key l){c:Nat}(h:IsPre l c cur):cur=preC l c :=
 key_ext h.key (hl.pre c) fun j hj=>by rw[h.bit j hj,preC_bit hl c j hj]
theorem bitN_flip{l:List Nat}(h:Key l)(i j:Nat)(hi:i<256):zBO (zGD l i) j=if j=i then 1 - zBO l i else zBO l j:=by
 have hb:=zCQ l i;have hlen:=h.len;rw[zIU (zGD l i) j];unfold zGD
 by_cases hk:j / 8=i / 8
 ·rw[hk]
  have hg:(l.set (i / 8) (l.getD (i / 8) 0 ^^^ valN i)).getD (i / 8) 0=l.getD (i / 8) 0 ^^^ valN i:=by
   rw[List.getD_eq_getElem?_getD,List.getElem?_set_self (by omega)];rfl
  rw[hg];have hx:=xor_bit (l.getD (i / 8) 0) (valN i) (7 - j%8);have hv:valN i / 2^(7 - j%8)%2=if j%8=i%8 then 1 else 0:=by
   unfold valN
   have:∀p<8,∀q<8,2^(7 - p) / 2^(7 - q)%2=if q=p then 1 else 0:=by decide
   exact this (i%8) (by omega) (j%8) (by omega)
  have h1:(l.getD (i / 8) 0 ^^^ valN i) / 2^(7 - j%8)%2<2:=Nat.mod_lt _ (by decide);have h2:l.getD (i / 8) 0 / 2^(7 - j%8)%2<2:=Nat.mod_lt _ (by decide)
  by_cases hji:j=i
  ·subst hji
   rw[if_pos rfl] at hv ⊢;rw[hv] at hx;rw[zIU];generalize l.getD (j / 8) 0 / 2^(7 - j%8)%2=p at *;generalize (l.getD (j / 8) 0 ^^^ valN j) / 2^(7 - j%8)%2=q at *
   by_cases hp:p=1
   ·have:¬q=1:=fun h=>(hx.1 h) hp
    omega
   ·have:q=1:=hx.2 hp
    omega
  ·rw[if_neg (by omega)] at hv
   rw[if_neg hji,zIU l j,hk];rw[hv] at hx;generalize l.getD (i / 8) 0 / 2^(7 - j%8)%2=p at *;generalize (l.getD (i / 8) 0 ^^^ valN i) / 2^(7 - j%8)%2=q at *
   by_cases hp:p=0
   ·have:¬q=1:=fun h=>(hx.1 h) hp
    omega
   ·have:q=1:=hx.2 hp
    omega
 ·have hg:(l.set (i / 8) (l.getD (i / 8) 0 ^^^ valN i)).getD (j / 8) 0=l.getD (j / 8) 0:=by
   rw[List.getD_eq_getElem?_getD,List.getElem?_set_ne (by omega),←List.getD_eq_getElem?_getD]
  rw[hg,if_neg (by intro h;subst h;exact hk rfl),zIU]
theorem isPre_keep{l cur:List Nat}{c:Nat}(h:IsPre l (c+1) cur)(hc:c<256)(hb:¬zBO cur c=1):IsPre l c cur :=
 ⟨h.key,fun j hj=>by
  have h1:=h.bit j hj;have h2:=zCQ cur c;rw[h1]
  by_cases hjc:j<c
  ·rw[if_pos hjc,if_pos (by omega)]
  ·by_cases hje:j=c
   ·subst hje
    rw[if_neg hjc,←h1];omega
   ·rw[if_neg hjc,if_neg (by omega)]⟩
theorem isPre_flip{l cur:List Nat}{c:Nat}(h:IsPre l (c+1) cur)(hc:c<256)(hb:zBO cur c=1):IsPre l c (zGD cur c) :=
 ⟨h.key.flip c,fun j hj=>by
  rw[bitN_flip h.key c j hc]
  by_cases hje:j=c
  ·subst hje
   rw[if_pos rfl,hb,if_neg (by omega)]
  ·rw[if_neg hje,h.bit j hj]
   by_cases hjc:j<c
   ·rw[if_pos hjc,if_pos (by omega)]
   ·rw[if_neg hjc,if_neg (by omega)]⟩
def curP(l:List Nat)(c k:Nat):List Nat:=(List.range 32).map fun i=>if i<k then maskN (l.getD i 0) (keepN c i) else l.getD i 0
theorem zHY(l:List Nat)(c k:Nat):(curP l c k).length=32:=by simp[curP]
theorem curP_get(l:List Nat)(c k i:Nat)(h:i<32):(curP l c k).getD i 0=if i<k then maskN (l.getD i 0) (keepN c i) else l.getD i 0:=by
 unfold curP;rw[List.getD_eq_getElem?_getD,List.getElem?_map,List.getElem?_range h];rfl
theorem curP_zero{l:List Nat}(h:Key l)(c:Nat):curP l c 0=l :=
 getD_ext (by rw[zHY,h.len]) fun i hi=>by rw[zHY] at hi;rw[curP_get l c 0 i hi,if_neg (by omega)]
theorem curP_end(l:List Nat)(c:Nat):curP l c 32=preC l c :=
 getD_ext (by rw[zHY];simp[preC]) fun i hi=>by rw[zHY] at hi;rw[curP_get l c 32 i hi,if_pos hi,preC_get l c i hi]
theorem curP_step(l:List Nat)(c k:Nat)(hk:k<32):(curP l c k).set k (maskN (l.getD k 0) (keepN c k))=curP l c (k+1) :=
 getD_ext (by rw[List.length_set,zHY,zHY]) fun i hi=>by
  rw[List.length_set,zHY] at hi;rw[curP_get l c (k+1) i hi]
  by_cases hik:i=k
  ·subst hik
   rw[List.getD_eq_getElem?_getD,List.getElem?_set_self (by rw[zHY];exact hi),if_pos (by omega)];rfl
  ·rw[List.getD_eq_getElem?_getD,List.getElem?_set_ne (fun h=>hik h.symm),←List.getD_eq_getElem?_getD,curP_get l c k i hi]
   by_cases h:i<k
   ·rw[if_pos h,if_pos (by omega)]
   ·rw[if_neg h,if_neg (by omega)]
end
section
open Go Go.RowKit
def orI(b:List Nat)(i:Int):List Nat:=if zDQ b i=1 then b else flipI b i
def andI(b:List Nat)(i:Int):List Nat:=if zDQ b i=1 then flipI b i else b
theorem bitI_lt{b:List Nat}{i:Int}(h:0≤i∧i<256):zDQ b i=(zBO b i.toNat:Nat):=by unfold zDQ;rw[if_pos h]
theorem bitI_out{b:List Nat}{i:Int}(h:¬(0≤i∧i<256)):zDQ b i = -1:=by unfold zDQ;rw[if_neg h]
theorem Key.or{b:List Nat}(h:Key b)(i:Int):Key (orI b i):=by
 unfold orI flipI
 split
 ·exact h
 ·split
  ·exact h.flip _
  ·exact h
theorem Key.and{b:List Nat}(h:Key b)(i:Int):Key (andI b i):=by
 unfold andI flipI
 split
 ·split
  ·exact h.flip _
  ·exact h
 ·exact h
theorem orI_bit{b:List Nat}(h:Key b)(i:Int)(j:Nat)(hj:j<256):zBO (orI b i) j=if (j:Int)=i then 1 else zBO b j:=by
 have hb:=zCQ b j;unfold orI
 by_cases hi:0≤i∧i<256
 ·rw[bitI_lt hi]
  by_cases h1:((zBO b i.toNat:Nat):Int)=1
  ·rw[if_pos h1]
   by_cases hji:(j:Int)=i
   ·rw[if_pos hji]
    obtain rfl:j=i.toNat:=by omega
    omega
   ·rw[if_neg hji]
  ·rw[if_neg h1]
   unfold flipI;rw[if_pos hi,bitN_flip h _ _ (by omega)]
   by_cases hji:(j:Int)=i
   ·have hi2:=zCQ b i.toNat
    rw[if_pos hji,if_pos (by omega)];omega
   ·rw[if_neg hji,if_neg (by omega)]
 ·rw[bitI_out hi,if_neg (by decide)]
  unfold flipI;rw[if_neg hi,if_neg (by omega)]
theorem andI_bit{b:List Nat}(h:Key b)(i:Int)(j:Nat)(hj:j<256):zBO (andI b i) j=if (j:Int)=i then 0 else zBO b j:=by
 have hb:=zCQ b j;unfold andI
 by_cases hi:0≤i∧i<256
 ·rw[bitI_lt hi]
  by_cases h1:((zBO b i.toNat:Nat):Int)=1
  ·rw[if_pos h1]
   unfold flipI;rw[if_pos hi,bitN_flip h _ _ (by omega)]
   by_cases hji:(j:Int)=i
   ·rw[if_pos hji,if_pos (by omega)]
    omega
   ·rw[if_neg hji,if_neg (by omega)]
  ·rw[if_neg h1]
   by_cases hji:(j:Int)=i
   ·have hi2:=zCQ b i.toNat
    rw[if_pos hji];obtain rfl:j=i.toNat:=by omega
    omega
   ·rw[if_neg hji]
 ·rw[bitI_out hi,if_neg (by decide),if_neg (by omega)]
theorem zero_bit(j:Nat):zBO zAH j=0:=by
 have h:zAH.getD (j / 8) 0=0:=by
  unfold zAH;rw[List.getD_eq_getElem?_getD,List.getElem?_replicate]
  split<;>rfl
 unfold zBO;rw[h,Nat.zero_div,Nat.zero_mod]
theorem zIO:Key zAH:=⟨by decide,by decide⟩
def setB(b:List Nat):List Nat:=(List.range 256).filter fun i=>zBO b i==1
def setI(b:List Nat):List Int:=(setB b).map fun (n:Nat)=>(n:Int)
def lenN(b:List Nat):Nat:=((List.range 32).map fun k=>Lib.onesCount (b.getD k 0)).sum
theorem ones_byte:∀x<256,Lib.onesCount x=((List.range 8).filter fun r=>x / 2^(7 - r)%2==1).length:=by decide +kernel
theorem range_split:List.range 256=(List.range 32).flatMap fun k=>(List.range 8).map fun r=>8*k+r:=by decide +kernel
theorem lenN_eq{b:List Nat}(h:Key b):lenN b=(setB b).length:=by
 unfold lenN setB;rw[range_split,List.filter_flatMap,List.length_flatMap];refine congrArg List.sum (List.map_congr_left fun k _=>?_);rw[ones_byte _ (h.get k),List.filter_map,List.length_map];refine congrArg List.length (List.filter_congr fun r hr=>?_);have hr8:r<8:=by simpa using hr
 simp only[Function.comp,zHO b k r hr8]
theorem ones_le:∀x<256,Lib.onesCount x≤8:=by decide +kernel
def lastUpto(b:List Nat):Nat→Int
 |0 => -1
 |n+1=>if zBO b n=1 then (n:Int) else lastUpto b n
def lastI(b:List Nat):Int:=lastUpto b 256
structure IsLast (b:List Nat)(n:Nat)(L:Int):Prop where
 lo : -1≤L
 hi:L<n
 bit:0≤L→zBO b L.toNat=1
 none:∀j:Nat,L<j→j<n→zBO b j=0
theorem lastUpto_is(b:List Nat):∀n,IsLast b n (lastUpto b n)
 |0=>⟨Int.le_refl _,show (-1:Int)<0 by decide,fun h=>absurd (show (0:Int) ≤ -1 from h) (by decide),fun j _ h=>absurd h (by omega)⟩
 |n+1=>by
  unfold lastUpto
  by_cases h:zBO b n=1
  ·rw[if_pos h]
   exact⟨by omega,by omega,fun _=>by simpa using h,fun j h1 h2=>by omega⟩
  ·rw[if_neg h]
   have ih:=lastUpto_is b n;refine⟨ih.lo,by have:=ih.hi;omega,ih.bit,fun j h1 h2=>?_⟩
   by_cases hj:j=n
   ·subst hj
    have:=zCQ b j;omega
   ·exact ih.none j h1 (by omega)
theorem isLast_unique{b:List Nat}{n:Nat}{L L':Int}(h:IsLast b n L)(h':IsLast b n L'):L=L':=by
 have h1:=h.lo;have h2:=h.hi;have h3:=h'.lo;have h4:=h'.hi
 by_cases hlt:L<L'
 ·have hb:=h'.bit (by omega)
  have hn:=h.none L'.toNat (by omega) (by omega);omega
 ·by_cases hgt:L'<L
  ·have hb:=h.bit (by omega)
   have hn:=h'.none L.toNat (by omega) (by omega);omega
  ·omega
theorem lastI_unique{b:List Nat}{L:Int}(h:IsLast b 256 L):lastI b=L:=isLast_unique (lastUpto_is b 256) h
theorem lastI_is(b:List Nat):IsLast b 256 (lastI b):=lastUpto_is b 256
end
end Go.Proofs.YtlcngapphloafaaGreatDoor
