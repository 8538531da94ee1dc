/- Parts of the proof that are used by the claim: RSha4, RPrefix, RHash, Gen, RList1, RList2, Ver4, Ver5. No condition is added here. -/
import Derived.Test.YtlcngapphloafaaGreatDoorPk21
namespace Go.Proofs.YtlcngapphloafaaGreatDoor
section
open Go Go.RowKit
def psi(v:BitVec 32):Int:=(v.toNat:Int)
def phi(x:Int):BitVec 32:=BitVec.ofInt 32 x
theorem psi_wrap(v:BitVec 32):IntKind.u32.wrap (v.toNat:Int)=psi v:=by
 rw[wrapU32]
 have:=v.isLt;unfold psi;omega
theorem phi_psi(v:BitVec 32):phi (psi v)=v:=by
 unfold phi psi;rw[BitVec.ofInt_natCast];simp
theorem xor_psi(x y:Int):zFE x y=psi (phi x ^^^ phi y):=psi_wrap _
theorem and_psi(x y:Int):and32 x y=psi (phi x &&& phi y):=psi_wrap _
theorem or_psi(x y:Int):or32 x y=psi (phi x ||| phi y):=psi_wrap _
theorem not_psi(x:Int):not32 x=psi (~~~ phi x):=by
 unfold not32;have h:(Go.bits .xor .u32 (if IntKind.u32.signed=true then -1 else IntKind.u32.max) x)=psi (phi (if IntKind.u32.signed=true then -1 else IntKind.u32.max) ^^^ phi x):=psi_wrap _;rw[h];have e:phi (if IntKind.u32.signed=true then -1 else IntKind.u32.max)=BitVec.allOnes 32:=by decide
 rw[e,BitVec.allOnes_xor]
theorem ch_eq(e f g:Int):zFE (and32 e f) (and32 (not32 e) g)=zFE g (and32 e (zFE f g)):=by
 simp only[xor_psi,and_psi,not_psi,phi_psi]
 congr 1
 ext i
 simp
 cases (phi e)[i]<;>cases (phi f)[i]<;>cases (phi g)[i]<;>rfl
theorem maj_eq(a b c:Int):zFE (zFE (and32 a b) (and32 a c)) (and32 b c)=or32 (and32 a b) (and32 c (or32 a b)):=by
 simp only[xor_psi,and_psi,or_psi,phi_psi]
 congr 1
 ext i
 simp
 cases (phi a)[i]<;>cases (phi b)[i]<;>cases (phi c)[i]<;>rfl
theorem turn_rot(x:Int)(n:Nat)(k:Int)(hk:rotK k=32 - (n:Nat))(h1:n<32):rot32 x k=zHG x n:=by
 unfold rot32 zHG;rw[hk,show (32 - (n:Int)).toNat=32 - n by omega,show (32 - (32 - (n:Int))).toNat=n by omega]
 show or32 _ _=or32 _ _
 rw[or_psi,or_psi,BitVec.or_comm]
theorem right2(x:Int)(n m:Nat)(hn:rotK (-(n:Nat):Int)=32 - (n:Nat))(hm:rotK (-(m:Nat):Int)=32 - (m:Nat))(h1:n<32)(h2:m<32):zHH x [(n:Nat),(m:Nat)]=zFE (zHG x n) (zHG x m):=by
 show zFE (zFE 0 (rot32 x (-(n:Nat)))) (rot32 x (-(m:Nat)))=_
 rw[turn_rot x n _ hn h1,turn_rot x m _ hm h2];simp only[xor_psi,phi_psi]
 congr 1
 have:phi 0=0#32:=by decide
 rw[this];simp
theorem right3(x:Int)(n m k:Nat)(hn:rotK (-(n:Nat):Int)=32 - (n:Nat))(hm:rotK (-(m:Nat):Int)=32 - (m:Nat))(hk:rotK (-(k:Nat):Int)=32 - (k:Nat))(h1:n<32)(h2:m<32)(h3:k<32):zHH x [(n:Nat),(m:Nat),(k:Nat)]=zFE (zFE (zHG x n) (zHG x m)) (zHG x k):=by
 show zFE (zFE (zFE 0 (rot32 x (-(n:Nat)))) (rot32 x (-(m:Nat)))) (rot32 x (-(k:Nat)))=_
 rw[turn_rot x n _ hn h1,turn_rot x m _ hm h2,turn_rot x k _ hk h3];simp only[xor_psi,phi_psi]
 congr 1
 have:phi 0=0#32:=by decide
 rw[this];simp
theorem t1_eq(s:Eight)(k w:Int):t1R s k w=turnT s k w:=by
 unfold t1R turnT;rw[ch_eq,←right3 s.e 6 11 25 (by decide) (by decide) (by decide) (by decide) (by decide) (by decide)];rfl
theorem round_eq(s:Eight)(k w:Int):roundR s k w=turn8 s (turnT s k w):=by
 unfold roundR turn8;rw[t1_eq];unfold t2R;rw[maj_eq,←right3 s.a 2 13 22 (by decide) (by decide) (by decide) (by decide) (by decide) (by decide)];simp only[add32,wrapU32]
 congr 1
 have e:(zHH s.a [((2:Nat):Int),((13:Nat):Int),((22:Nat):Int)])=zHH s.a [2,13,22]:=rfl;rw[e];omega
theorem or_add(x y:Nat)(i:Nat)(hy:y<2^i)(hx:2^i*x+y<4294967296):or32 ((2^i*x:Nat):Int) (y:Nat)=((2^i*x+y:Nat):Int):=by
 have h1:2^i*x<4294967296:=by omega
 have h2:y<4294967296:=by omega
 rw[or_psi];unfold phi psi;rw[BitVec.ofInt_natCast,BitVec.ofInt_natCast,BitVec.toNat_or,BitVec.toNat_ofNat,BitVec.toNat_ofNat,Nat.mod_eq_of_lt h1,Nat.mod_eq_of_lt h2,Nat.two_pow_add_eq_or_of_lt hy]
theorem word_eq(b:List Nat)(i:Nat)(hb:∀k,b.getD k 0<256):wordR b i=wordJ b i 4:=by
 have h0:=hb (4*i);have h1:=hb (4*i+1);have h2:=hb (4*i+2);have h3:=hb (4*i+3);have e0:wordJ b i 4=or32 (IntKind.u32.wrap (or32 (IntKind.u32.wrap (or32 (IntKind.u32.wrap (or32 (IntKind.u32.wrap (0*256)) (b.getD (4*i+0) 0:Nat)*256)) (b.getD (4*i+1) 0:Nat)*256)) (b.getD (4*i+2) 0:Nat)*256)) (b.getD (4*i+3) 0:Nat):=rfl;rw[e0];unfold wordR;rw[Nat.add_zero];generalize b.getD (4*i) 0=x0 at *;generalize b.getD (4*i+1) 0=x1 at *;generalize b.getD (4*i+2) 0=x2 at *;generalize b.getD (4*i+3) 0=x3 at *;have a1:or32 ((x0:Nat)*16777216) ((x1:Nat)*65536)=((x0*16777216+x1*65536:Nat):Int):=by
  have h:=or_add x0 (x1*65536) 24 (by omega) (by omega);rw[show (2^24*x0:Nat)=x0*16777216 by omega] at h;rw[←h];rfl
 have a2:or32 ((x0*16777216+x1*65536:Nat):Int) ((x2:Nat)*256)=((x0*16777216+x1*65536+x2*256:Nat):Int):=by
  have h:=or_add (x0*256+x1) (x2*256) 16 (by omega) (by omega);rw[show (2^16*(x0*256+x1):Nat)=x0*16777216+x1*65536 by omega] at h;rw[←h];rfl
 have a3:or32 ((x0*16777216+x1*65536+x2*256:Nat):Int) (x3:Nat)=((x0*16777216+x1*65536+x2*256+x3:Nat):Int):=by
  have h:=or_add (x0*65536+x1*256+x2) x3 8 (by omega) (by omega);rw[show (2^8*(x0*65536+x1*256+x2):Nat)=x0*16777216+x1*65536+x2*256 by omega] at h;exact h
 rw[a1,a2,a3];have b0:or32 (IntKind.u32.wrap (0*256)) (x0:Nat)=((x0:Nat):Int):=by
  have h:=or_add 0 x0 8 (by omega) (by omega)
  simpa[wrapU32] using h
 have b1:or32 (IntKind.u32.wrap ((x0:Nat)*256)) (x1:Nat)=((x0*256+x1:Nat):Int):=by
  have h:=or_add x0 x1 8 (by omega) (by omega);rw[wrapU32,show ((x0:Nat):Int)*256%4294967296=((2^8*x0:Nat):Int) by omega,h]
  congr 1;omega
 have b2:or32 (IntKind.u32.wrap ((x0*256+x1:Nat)*256)) (x2:Nat)=(((x0*256+x1)*256+x2:Nat):Int):=by
  have h:=or_add (x0*256+x1) x2 8 (by omega) (by omega);rw[wrapU32,show ((x0*256+x1:Nat):Int)*256%4294967296=((2^8*(x0*256+x1):Nat):Int) by omega,h]
  congr 1;omega
 have b3:or32 (IntKind.u32.wrap (((x0*256+x1)*256+x2:Nat)*256)) (x3:Nat)=((((x0*256+x1)*256+x2)*256+x3:Nat):Int):=by
  have h:=or_add ((x0*256+x1)*256+x2) x3 8 (by omega) (by omega);rw[wrapU32,show (((x0*256+x1)*256+x2:Nat):Int)*256%4294967296=((2^8*((x0*256+x1)*256+x2):Nat):Int) by omega,h]
  congr 1;omega
 rw[b0,b1,b2,b3];omega
theorem next_eq(W:List Int)(i:Nat):nextR W i=mixV (W.getD (i - 16) 0) (W.getD (i - 15) 0) (W.getD (i - 7) 0) (W.getD (i - 2) 0):=by
 unfold nextR mixV;generalize W.getD (i - 15) 0=X;generalize W.getD (i - 2) 0=Y;have e1:zHH X [7,18]=zFE (zHG X 7) (zHG X 18):=right2 X 7 18 (by decide) (by decide) (by decide) (by decide);have e2:zHH Y [17,19]=zFE (zHG Y 17) (zHG Y 19):=right2 Y 17 19 (by decide) (by decide) (by decide) (by decide);rw[e1,e2];simp only[add32,wrapU32];omega
theorem sched_pre(b:List Nat):∀(n m j:Nat),j<n→n≤m→(zBS b m).getD j 0=(zBS b n).getD j 0
 |n,0,j,hj,hm=>by omega
 |n,m+1,j,hj,hm=>by
  by_cases h:n=m+1
  ·rw[h]
  ·rw[←sched_pre b n m j hj (by omega),zBS,List.getD_eq_getElem?_getD,List.getD_eq_getElem?_getD,List.getElem?_append_left (by rw[schedR_len];omega)]
theorem sched_at(b:List Nat)(i:Nat)(hi:i<64):(zBS b 64).getD i 0=if i<16 then wordR b i else nextR (zBS b i) i:=by
 have h:(zBS b (i+1)).getD i 0=if i<16 then wordR b i else nextR (zBS b i) i:=by
  show (zBS b i++[if i<16 then wordR b i else nextR (zBS b i) i]).getD i 0=_
  generalize (if i<16 then wordR b i else nextR (zBS b i) i)=y;rw[List.getD_eq_getElem?_getD,List.getElem?_append_right (by rw[schedR_len];exact Nat.le_refl _),schedR_len,Nat.sub_self];rfl
 rw[←h];exact sched_pre b (i+1) 64 i (by omega) (by omega)
theorem rolling(K:List Int)(b:List Nat)(hb:∀k,b.getD k 0<256)(s0:Eight):∀i,i≤64→(i≤16→(zEU K (zIF b 16 0) s0 i).1=zIF b 16 0)∧(16≤i→∀j,i≤j+16→j<i→(zEU K (zIF b 16 0) s0 i).1.getD (j%16) 0=(zBS b 64).getD j 0)
 |0,_=>⟨fun _=>rfl,fun h=>by omega⟩
 |i+1,hi=>by
  obtain⟨h1,h2⟩:=rolling K b hb s0 i (by omega);have hlen:=roundsN_len K (zIF b 16 0) s0 (rowW_len b 16 0) i;have row:∀j,j<16→(zIF b 16 0).getD j 0=(zBS b 64).getD j 0:=fun j hj=>by
   rw[sched_at b j (by omega),if_pos hj,word_eq b j hb];simp[zIF,List.getD_eq_getElem?_getD,hj]
  show ((i+1≤16→mixW (zEU K (zIF b 16 0) s0 i).1 i=zIF b 16 0)∧(16≤i+1→∀j,i+1≤j+16→j<i+1→(mixW (zEU K (zIF b 16 0) s0 i).1 i).getD (j%16) 0=(zBS b 64).getD j 0))
  refine⟨fun h=>?_,fun h j hj1 hj2=>?_⟩
  ·unfold mixW
   rw[if_pos (by omega)];exact h1 (by omega)
  ·by_cases h16:i<16
   ·unfold mixW
    rw[if_pos h16,h1 (by omega),Nat.mod_eq_of_lt (by omega)];exact row j (by omega)
   ·unfold mixW
    rw[if_neg h16];have old:∀t,i≤t+16→t<i→(zEU K (zIF b 16 0) s0 i).1.getD (t%16) 0=(zBS b 64).getD t 0:=h2 (by omega);generalize (zEU K (zIF b 16 0) s0 i).1=W at *
    by_cases hji:j=i
    ·subst hji
     rw[List.getD_eq_getElem?_getD,List.getElem?_set_self (by omega),Option.getD_some,sched_at b j (by omega),if_neg h16,next_eq];rw[←sched_pre b j 64 (j - 16) (by omega) (by omega),←sched_pre b j 64 (j - 15) (by omega) (by omega),←sched_pre b j 64 (j - 7) (by omega) (by omega),←sched_pre b j 64 (j - 2) (by omega) (by omega)];rw[←old (j - 16) (by omega) (by omega),←old (j - 15) (by omega) (by omega),←old (j - 7) (by omega) (by omega),←old (j - 2) (by omega) (by omega)];rw[show (j - 16)%16=j%16 by omega,show (j - 15)%16=(j+1)%16 by omega,show (j - 7)%16=(j+9)%16 by omega,show (j - 2)%16=(j+14)%16 by omega]
    ·rw[List.getD_eq_getElem?_getD,List.getElem?_set_ne (by omega),←List.getD_eq_getElem?_getD]
     exact old j (by omega) (by omega)
theorem rounds_eq(b:List Nat)(hb:∀k,b.getD k 0<256)(s0:Eight):∀i,i≤64→(zEU zAK (zIF b 16 0) s0 i).2=zIG s0 (zBS b 64) i
 |0,_=>rfl
 |i+1,hi=>by
  have h:=rounds_eq b hb s0 i (by omega);obtain⟨h1,h2⟩:=rolling zAK b hb s0 (i+1) hi;have e:(mixW (zEU zAK (zIF b 16 0) s0 i).1 i).getD (i%16) 0=(zBS b 64).getD i 0:=by
   by_cases h16:16≤i+1
   ·exact h2 h16 i (by omega) (by omega)
   ·have h3:mixW (zEU zAK (zIF b 16 0) s0 i).1 i=zIF b 16 0:=h1 (by omega)
    rw[h3,sched_at b i (by omega),if_pos (by omega),word_eq b i hb,Nat.mod_eq_of_lt (by omega)];simp[zIF,List.getD_eq_getElem?_getD,show i<16 by omega]
  show turn8 (zEU zAK (zIF b 16 0) s0 i).2 (turnT (zEU zAK (zIF b 16 0) s0 i).2 (zAK.getD i 0) ((mixW (zEU zAK (zIF b 16 0) s0 i).1 i).getD (i%16) 0))=roundR (zIG s0 (zBS b 64) i) (zAK.getD i 0) ((zBS b 64).getD i 0)
  rw[e,h,round_eq]
theorem block_eq(S:List Int)(b:List Nat)(hb:∀k,b.getD k 0<256):blockR S b=takeF zAK S b:=by
 unfold blockR takeF;rw[rounds_eq b hb (zGS S) 64 (Nat.le_refl _)]
theorem states_eq(p:List Nat)(hp:∀x∈p,x<256):∀m,zHI p m=stateF zAK p (List.range m)
 |0=>rfl
 |m+1=>by
  rw[List.range_succ,stateF_snoc,←states_eq p hp m];refine block_eq _ _ fun k=>?_
  rw[List.getD_eq_getElem?_getD]
  cases h:(piece p m)[k]? with
  |none=>simp
  |some x=>exact hp x (List.mem_of_mem_drop (List.mem_of_mem_take (List.mem_of_getElem? h)))
def tailL(n:Nat):Nat→List Nat
 |0=>[]
 |i+1=>(n*8 / 2^(8*i)%256)::tailL n i
theorem pad_step(l:List Nat):∀i,i≤8→padI l i=l++(128::(List.replicate (zFL l+(8 - i)) 0++tailL l.length i))
 |0,_=>by
  have h:padN l - l.length=(zFL l+8)+1:=by unfold padN zFL;omega
  show (l++List.replicate (padN l - l.length) 0).set l.length 128=_
  rw[h,List.set_append,if_neg (by omega),Nat.sub_self,List.replicate_succ,List.set_cons_zero];simp[tailL]
 |i+1,hi=>by
  have h:padN l=l.length+1+zFL l+8:=by unfold padN zFL;omega
  show (padI l i).set (padN l - 1 - i) _=_
  rw[pad_step l i (by omega),List.set_append,if_neg (by omega),show padN l - 1 - i - l.length=(zFL l+(8 - (i+1)))+1 by omega,List.set_cons_succ,
   show zFL l+(8 - i)=(zFL l+(8 - (i+1)))+1 by omega,List.replicate_succ',List.append_assoc,List.set_append,if_neg (by simp)]
  simp[tailL]
theorem pad_eq(l:List Nat):padR l=padF l:=by
 unfold padF;rw[pad_step l 8 (Nat.le_refl _)];unfold padR;rw[Nat.sub_self,Nat.add_zero,List.append_assoc];rfl
theorem sum_eq(l:List Nat)(h:∀x∈l,x<256):sumR l=shaF zAK l:=by
 unfold sumR shaF;rw[states_eq _ (padR_lt l h),pad_eq]
 congr 2
 rw[padF,padI_len]
theorem SumRef_calls(l:List Nat)(v:Value)(w:World)(hb:∀x∈l,x<256)(hl:l.length≤1099511627776)(hv:RdB w v l) :
  Calls Tryz.prog 85 #[v] w fun e w'=>e=.returned (.agg (kv (shaF zAK l)))∧Below w.heap.size w w':=by
 have h:=SumR_calls l v w hb hl hv
 rwa [sum_eq l hb] at h
end
section
set_option maxHeartbeats 1000000
open Go Go.RowKit
theorem RefPrefix_neg(l:List Nat)(hk:Key l)(n:Int)(hn:n<0)(w:World) :
  Calls Tryz.prog 128 #[.agg (kv l),.int .i64 n] w fun e w'=>e=.returned (.agg (kv (preC l (zCV n))))∧Below w.heap.size w w':=by
 have HK:=Lib.hid hk;clear hk;have st:=St.init w;go_enter Tryz.func128,Tryz.ntmps128
 go_wp2_with (first | (refine zAD (by assumption) rfl 37 _ rfl _ rfl ?_;intro b1 w1 st1;clear st) | (refine zAE (by assumption) rfl 37 rfl _ zEL ?_;intro b2 w2 st2;clear st1))
 go_loopw [5] (fun i wr=>∃(k:Int) (cur:List Nat),-1≤k∧k≤255∧i=.int .i64 k∧Hid (0≤k+1∨(256<0∧k=255))∧Hid (IsPre l (k+1).toNat cur)∧St w.heap.size w [(b2,kv zAH,37),(b1,kv cur,37)] wr) (fun i _=>(intOf i+1).toNat)
 case atStart=>exact⟨255,l,by omega,by omega,rfl,by unfold Hid;omega,isPre_start HK.out,st2⟩
 case round =>
  obtain⟨k,cur,k0,k1,rfl,hNk,hp,st3⟩:=hrel;clear st2
  by_cases hlt:0≤k
  ·have hk0:0≤k:=by omega
   have hkn:(k+1).toNat=k.toNat+1:=by omega
   have hcl:Hid (cur.length=32):=hp.out.key.len;have hc1:∀wx:World,Calls Tryz.prog 92 #[.agg (kv cur),.int .i64 k] wx fun e w'=>e=.returned (.int .i64 (zBO cur k.toNat:Nat))∧Below wx.heap.size wx w':=fun wx=>RefBit_in cur hp.out.key k hk0 (by omega) wx
   have hc2:∀wx:World,Calls Tryz.prog 163 #[.agg (kv cur),.int .i64 k] wx fun e w'=>e=.returned (.agg (kv (zGD cur k.toNat)))∧Below wx.heap.size wx w':=fun wx =>
    (RefFlip_calls cur hp.out.key k wx).mono fun e w' ⟨he,hw⟩=>⟨by rw[he];unfold flipI;rw[if_pos ⟨hk0,by omega⟩],hw⟩
   have HC1:=Lib.hid hc1;have HC2:=Lib.hid hc2;clear hc1 hc2;have hNk':0≤k - 1+1∨(256<0∧k - 1=255):=by omega
   by_cases hb:zBO cur k.toNat=1
   ·have Hp2:Hid (IsPre l (k - 1+1).toNat (zGD cur k.toNat)):=by
     have h:=hp.out;rw[hkn] at h;rw[show (k - 1+1).toNat=k.toNat by omega];exact isPre_flip h (by omega) hb
    have hcl2:Hid ((zGD cur k.toNat).length=32):=Hp2.out.key.len;have hb1:((zBO cur k.toNat:Nat):Int)=1:=by omega
    rw[hb1] at HC1;have HNk:=Lib.hid hNk';clear hp hkn hb hb1 hNk hNk'
    go_wp2_with (first | (refine zAC rfl 37 _ rfl b1 rfl _ zBF rfl _ _ (St.at (by assumption) (i:=1) rfl) (zAX hcl.out) ?_) | (go_at_call 92;refine(HC1.out _).mono ?_;rintro e w4 ⟨rfl,hbel⟩;have st4:=st3.call hbel;clear st3 hbel) | (go_at_call 163;refine(HC2.out _).mono ?_;rintro e w5 ⟨rfl,hbel⟩;have st5:=st4.call hbel;clear st4 hbel) | (refine zAA (by assumption) rfl 37 _ _ rfl 1 b1 rfl _ rfl _ _ rfl (zAX hcl2.out) (by show (kv (zGD cur k.toNat)).size=_;rw[zAF,zAF,hcl.out,hcl2.out]) (zBJ _) _ rfl ?_;intro w6 st6;clear st5))
    simp only[List.set_cons_succ,List.set_cons_zero] at st6;go_roundw
    case rel=>exact⟨k - 1,zGD cur k.toNat,by omega,by omega,rfl,HNk.out,Hp2.out,st6⟩
    case measure=>simp[intOf];omega
   ·have Hp2:Hid (IsPre l (k - 1+1).toNat cur):=by
     have h:=hp.out;rw[hkn] at h;rw[show (k - 1+1).toNat=k.toNat by omega];exact isPre_keep h (by omega) hb
    have hb1:((zBO cur k.toNat:Nat):Int)=0:=by have:=zCQ cur k.toNat;omega
    rw[hb1] at HC1;have HNk:=Lib.hid hNk';clear hp hkn hb hb1 hNk hNk'
    go_wp2_with (first | (refine zAC rfl 37 _ rfl b1 rfl _ zBF rfl _ _ (St.at (by assumption) (i:=1) rfl) (zAX hcl.out) ?_) | (go_at_call 92;refine(HC1.out _).mono ?_;rintro e w4 ⟨rfl,hbel⟩;have st4:=st3.call hbel;clear st3 hbel))
    go_roundw
    case rel=>exact⟨k - 1,cur,by omega,by omega,rfl,HNk.out,Hp2.out,st4⟩
    case measure=>simp[intOf];omega
  ·have e:Hid (cur=preC l (zCV n)):=by
    have hc:(k+1).toNat=zCV n:=by
     unfold zCV;rcases hNk.out with h | ⟨h,h'⟩<;>omega
    have h:=isPre_end HK.out hp.out;rw[hc] at h;exact h
   rw[e.out] at st3;have hl2:Hid ((preC l (zCV n)).length=32):=(HK.out.pre _).len;clear e hp hNk
   go_wp2_with (first | (refine zAC rfl 37 _ rfl b1 rfl _ zBF rfl _ _ (st3.at (i:=1) rfl) (zAX hl2.out) ?_) | (refine zAA st3 rfl 37 _ _ rfl 0 b2 rfl _ rfl _ _ rfl (zAX hl2.out) (by show (kv (preC l (zCV n))).size=_;rw[zAF,hl2.out,zAF];rfl) (zBJ _) _ rfl ?_;intro w6 st6;clear st3))
   exact zBX rfl b2 _ _ _ rfl (st6.at (i:=0) rfl) zBF rfl (zAX hl2.out) rfl ⟨rfl,st6.below⟩
theorem RefPrefix_pos(l:List Nat)(hk:Key l)(n:Int)(hn:0≤n)(hn1:n≤9223372036854775807)(w:World) :
  Calls Tryz.prog 128 #[.agg (kv l),.int .i64 n] w fun e w'=>e=.returned (.agg (kv (preC l (zCV n))))∧Below w.heap.size w w':=by
 have HK:=Lib.hid hk;clear hk;have st:=St.init w;go_enter Tryz.func128,Tryz.ntmps128
 go_wp2_with (first | (refine zAD (by assumption) rfl 37 _ rfl _ rfl ?_;intro b1 w1 st1;clear st) | (refine zAE (by assumption) rfl 37 rfl _ zEL ?_;intro b2 w2 st2;clear st1))
 go_loopw [5] (fun i wr=>∃(k:Int) (cur:List Nat),-1≤k∧k≤255∧i=.int .i64 k∧Hid (n≤k+1∨(256<n∧k=255))∧Hid (IsPre l (k+1).toNat cur)∧St w.heap.size w [(b2,kv zAH,37),(b1,kv cur,37)] wr) (fun i _=>(intOf i+1).toNat)
 case atStart=>exact⟨255,l,by omega,by omega,rfl,by unfold Hid;omega,isPre_start HK.out,st2⟩
 case round =>
  obtain⟨k,cur,k0,k1,rfl,hNk,hp,st3⟩:=hrel;clear st2
  by_cases hlt:n≤k
  ·have hk0:0≤k:=by omega
   have hkn:(k+1).toNat=k.toNat+1:=by omega
   have hcl:Hid (cur.length=32):=hp.out.key.len;have hc1:∀wx:World,Calls Tryz.prog 92 #[.agg (kv cur),.int .i64 k] wx fun e w'=>e=.returned (.int .i64 (zBO cur k.toNat:Nat))∧Below wx.heap.size wx w':=fun wx=>RefBit_in cur hp.out.key k hk0 (by omega) wx
   have hc2:∀wx:World,Calls Tryz.prog 163 #[.agg (kv cur),.int .i64 k] wx fun e w'=>e=.returned (.agg (kv (zGD cur k.toNat)))∧Below wx.heap.size wx w':=fun wx =>
    (RefFlip_calls cur hp.out.key k wx).mono fun e w' ⟨he,hw⟩=>⟨by rw[he];unfold flipI;rw[if_pos ⟨hk0,by omega⟩],hw⟩
   have HC1:=Lib.hid hc1;have HC2:=Lib.hid hc2;clear hc1 hc2;have hNk':n≤k - 1+1∨(256<n∧k - 1=255):=by omega
   by_cases hb:zBO cur k.toNat=1
   ·have Hp2:Hid (IsPre l (k - 1+1).toNat (zGD cur k.toNat)):=by
     have h:=hp.out;rw[hkn] at h;rw[show (k - 1+1).toNat=k.toNat by omega];exact isPre_flip h (by omega) hb
    have hcl2:Hid ((zGD cur k.toNat).length=32):=Hp2.out.key.len;have hb1:((zBO cur k.toNat:Nat):Int)=1:=by omega
    rw[hb1] at HC1;have HNk:=Lib.hid hNk';clear hp hkn hb hb1 hNk hNk'
    go_wp2_with (first | (refine zAC rfl 37 _ rfl b1 rfl _ zBF rfl _ _ (St.at (by assumption) (i:=1) rfl) (zAX hcl.out) ?_) | (go_at_call 92;refine(HC1.out _).mono ?_;rintro e w4 ⟨rfl,hbel⟩;have st4:=st3.call hbel;clear st3 hbel) | (go_at_call 163;refine(HC2.out _).mono ?_;rintro e w5 ⟨rfl,hbel⟩;have st5:=st4.call hbel;clear st4 hbel) | (refine zAA (by assumption) rfl 37 _ _ rfl 1 b1 rfl _ rfl _ _ rfl (zAX hcl2.out) (by show (kv (zGD cur k.toNat)).size=_;rw[zAF,zAF,hcl.out,hcl2.out]) (zBJ _) _ rfl ?_;intro w6 st6;clear st5))
    simp only[List.set_cons_succ,List.set_cons_zero] at st6;go_roundw
    case rel=>exact⟨k - 1,zGD cur k.toNat,by omega,by omega,rfl,HNk.out,Hp2.out,st6⟩
    case measure=>simp[intOf];omega
   ·have Hp2:Hid (IsPre l (k - 1+1).toNat cur):=by
     have h:=hp.out;rw[hkn] at h;rw[show (k - 1+1).toNat=k.toNat by omega];exact isPre_keep h (by omega) hb
    have hb1:((zBO cur k.toNat:Nat):Int)=0:=by have:=zCQ cur k.toNat;omega
    rw[hb1] at HC1;have HNk:=Lib.hid hNk';clear hp hkn hb hb1 hNk hNk'
    go_wp2_with (first | (refine zAC rfl 37 _ rfl b1 rfl _ zBF rfl _ _ (St.at (by assumption) (i:=1) rfl) (zAX hcl.out) ?_) | (go_at_call 92;refine(HC1.out _).mono ?_;rintro e w4 ⟨rfl,hbel⟩;have st4:=st3.call hbel;clear st3 hbel))
    go_roundw
    case rel=>exact⟨k - 1,cur,by omega,by omega,rfl,HNk.out,Hp2.out,st4⟩
    case measure=>simp[intOf];omega
  ·have e:Hid (cur=preC l (zCV n)):=by
    have hc:(k+1).toNat=zCV n:=by
     unfold zCV;rcases hNk.out with h | ⟨h,h'⟩<;>omega
    have h:=isPre_end HK.out hp.out;rw[hc] at h;exact h
   rw[e.out] at st3;have hl2:Hid ((preC l (zCV n)).length=32):=(HK.out.pre _).len;clear e hp hNk
   go_wp2_with (first | (refine zAC rfl 37 _ rfl b1 rfl _ zBF rfl _ _ (st3.at (i:=1) rfl) (zAX hl2.out) ?_) | (refine zAA st3 rfl 37 _ _ rfl 0 b2 rfl _ rfl _ _ rfl (zAX hl2.out) (by show (kv (preC l (zCV n))).size=_;rw[zAF,hl2.out,zAF];rfl) (zBJ _) _ rfl ?_;intro w6 st6;clear st3))
   exact zBX rfl b2 _ _ _ rfl (st6.at (i:=0) rfl) zBF rfl (zAX hl2.out) rfl ⟨rfl,st6.below⟩
theorem RefPrefix_calls(l:List Nat)(hk:Key l)(n:Int)(hn1:n≤9223372036854775807)(w:World) :
  Calls Tryz.prog 128 #[.agg (kv l),.int .i64 n] w fun e w'=>e=.returned (.agg (kv (preC l (zCV n))))∧Below w.heap.size w w':=by
 by_cases hn:n<0
 ·exact RefPrefix_neg l hk n hn w
 ·exact RefPrefix_pos l hk n (by omega) hn1 w
end
section
set_option maxHeartbeats 2000000
open Go Go.RowKit
attribute [local irreducible] Inv.wpInv Mix.wpUp
theorem CutR_calls(d:List Nat)(hd:Key d)(bits:Int)(hB:bits≤256)(w:World) :
  Calls Tryz.prog 84 #[.agg (kv d),.int .i64 bits] w fun e w'=>e=.returned (.agg (kv (preC d (zCV bits))))∧Below w.heap.size w w':=by
 have HP:=Lib.hid (fun wx=>RefPrefix_calls d hd bits (by omega) wx);have HL:=Lib.hid hd.len;have HR:Hid ((preC d (zCV bits)).length=32):=(hd.pre _).len;generalize hR:preC d (zCV bits)=R at *;clear hd;have st:=St.init w;go_enter Tryz.func84,Tryz.ntmps84
 go_wp2_with (first
  |(refine zAD st rfl 38 _ rfl _ rfl ?_;intro b1 w1 st1;clear st)
  |((with_reducible refine zAW 38 ?_);refine zAE st1 rfl 38 rfl _ zCG ?_;intro b2 w2 st2;clear st1)
  |((with_reducible refine zBA 38 ?_);refine zAC rfl 38 _ rfl b1 rfl _ zEE rfl _ _ (st2.at (i:=1) rfl) (zCA HL.out) ?_)
  |(go_at_call 128;refine(HP.out _).mono ?_;rintro e w3 ⟨rfl,hb3⟩;have st3:=st2.call hb3;clear st2 hb3)
  |((with_reducible refine zAN 38 ?_);refine zAA st3 rfl 38 _ _ rfl 0 b2 rfl (.agg (kv R)) rfl _ _ rfl (zCA HR.out) (by show (kv R).size=_;rw[zAF,HR.out,zAF];rfl) (zBJ _) _ rfl ?_;intro w4 st4;clear st3))
 exact zBX rfl b2 _ _ _ rfl (st4.at (i:=0) rfl) zEE rfl (zCA HR.out) rfl ⟨rfl,st4.below⟩
theorem Sum5_calls(bits:Int)(hB:bits≤256)(l:List Nat)(v:Value)(w:World)(hb:∀x∈l,x<256)(hl:l.length≤1099511627776)(hv:RdB w v l) :
  Calls Tryz.prog 44 #[.int .i64 bits,v] w fun e w'=>e=.returned (.agg (kv (zBE zAK bits l)))∧Below w.heap.size w w':=by
 have HS:=Lib.hid (fun wx (hbx:Below w.heap.size w wx)=>SumRef_calls l v wx hb hl (hv.call hbx));have HC:=Lib.hid (fun wx=>CutR_calls (shaF zAK l) (shaF_key _ _) bits hB wx);have HR:Hid ((zBE zAK bits l).length=32):=(zBG _ _ _).len;have HE:Hid (preC (shaF zAK l) (zCV bits)=zBE zAK bits l):=rfl;rw[HE.out] at HC;generalize zBE zAK bits l=R at *;generalize shaF zAK l=D at *;clear hb hl hv HE;have st:=St.init w;go_enter Tryz.func44,Tryz.ntmps44
 go_wp2_with (first
  |((with_reducible refine zAW 38 ?_);refine zAE st rfl 38 rfl _ zCG ?_;intro b2 w2 st2;clear st)
  |(go_at_call 85;refine(HS.out _ st2.below).mono ?_;rintro e w3 ⟨rfl,hb3⟩;have st3:=st2.call hb3;clear st2 hb3)
  |(go_at_call 84;refine(HC.out _).mono ?_;rintro e w4 ⟨rfl,hb4⟩;have st4:=st3.call hb4;clear st3 hb4)
  |((with_reducible refine zAN 38 ?_);refine zAA st4 rfl 38 _ _ rfl 0 b2 rfl (.agg (kv R)) rfl _ _ rfl (zCA HR.out) (by show (kv R).size=_;rw[zAF,HR.out,zAF];rfl) (zBJ _) _ rfl ?_;intro w5 st5;clear st4))
 exact zBX rfl b2 _ _ _ rfl (st5.at (i:=0) rfl) zEE rfl (zCA HR.out) rfl ⟨rfl,st5.below⟩
theorem ValueR_calls(l:List Nat)(v:Value)(w:World)(hl:l.length≤1099511627770)(hv:RdB w v l) :
  Calls Tryz.prog 45 #[v] w fun e w'=>∃v',e=.returned v'∧RdB w' v' (2::l)∧Below w.heap.size w w':=by
 have HV:=Lib.hid hv;obtain⟨a,c,rfl,_⟩:=hv.open;clear hv;have st:=St.init w;go_enter Tryz.func45,Tryz.ntmps45
 go_wp2_with (first
  |((with_reducible refine zBP 22 ?_);refine zAR st rfl 22 1 _ rfl 5 zCC _ 1 zDU zCN (by decide) (by decide) [(0,.int .u8 (2:Nat))] ?_ _ (fillK 2) ?_;(·first | (simp[Act.eval];done) | rfl);intro b3 w3 st3 hb3;clear st)
  |(at_builtin;refine zCE (base:=w.heap.size) st3.drop (by simp) (Nat.le_refl _) rfl _ _ 22 rfl 5 (.int .u8 0) 1 zCC zDU zCN zFD rfl (.slice (some ⟨b3,0,none⟩) 1 1) 1 [.int .u8 (2:Nat)] rfl (ownsRow_one (st3.above (i:=0) rfl) (st3.at (i:=0) rfl)) (.slice a l.length c) l rfl (HV.out.call st3.below) (by unfold maxLen;omega) (by omega) st3.size ?_;intro v4 w4 st4 hown4 _ _;clear st3))
 go_ret;refine⟨_,rfl,RdB.own (base:=w.heap.size) (e:=5) ?_,st4.below⟩;rw[List.length_cons,Nat.add_comm];exact hown4
theorem EmptyR_calls(bits:Int)(hB:bits≤256)(w:World) :
  Calls Tryz.prog 49 #[.int .i64 bits] w fun e w'=>e=.returned (.agg (kv (zBE zAK bits [3])))∧Below w.heap.size w w':=by
 have HS:=Lib.hid (fun v wx (hv:RdB wx v [3])=>Sum5_calls bits hB [3] v wx (by decide) (by decide) hv);have HR:Hid ((zBE zAK bits [3]).length=32):=(zBG _ _ _).len;generalize zBE zAK bits [3]=R at *;have st:=St.init w;go_enter Tryz.func49,Tryz.ntmps49
 go_wp2_with (first
  |((with_reducible refine zAW 38 ?_);refine zAE st rfl 38 rfl _ zCG ?_;intro b2 w2 st2;clear st)
  |((with_reducible refine zBP 22 ?_);refine zAR st2 rfl 22 1 _ rfl 5 zCC _ 1 zDU zCN (by decide) (by decide) [(0,.int .u8 (3:Nat))] ?_ _ (fillK 3) ?_;(·first | (simp[Act.eval];done) | rfl);intro b3 w3 st3 hb3;clear st2)
  |(go_at_call 44;refine(HS.out _ _ (RdB.row (l:=[3]) (by decide) (st3.at (i:=0) rfl))).mono ?_;rintro e w4 ⟨rfl,hb4⟩;have st4:=st3.call hb4;clear st3 hb4)
  |((with_reducible refine zAN 38 ?_);refine zAA st4 rfl 38 _ _ rfl 1 b2 rfl (.agg (kv R)) rfl _ _ rfl (zCA HR.out) (by show (kv R).size=_;rw[zAF,HR.out,zAF];rfl) (zBJ _) _ rfl ?_;intro w5 st5;clear st4))
 exact zBX rfl b2 _ _ _ rfl (st5.at (i:=1) rfl) zEE rfl (zCA HR.out) rfl ⟨rfl,st5.below⟩
section
variable {P:Program} {ops:Array Oper} {rest:List Oper} {o:Oper} {a:Act} {w w0:World} {Q:Exit→Act→World→Prop} {B:Nat} {L:List (Nat×Array Value×TypeId)}
theorem wpList_buildSliceN(st:St B w0 L w)(hgd:Region.wanted o (yielded ops a.tmps)=true)(t:TypeId)(len:Nat)(parts:Array (Nat×Operand))(ho:o.op=.buildSlice t len parts)(e:TypeId)(ht:P.underlying t=some (.slice e))(z:Value)(size:Nat)
  (hz:(P.info? e).bind (·.zero)=some z) (hsize:(P.info? e).map (·.size)=some size) (hlim:len*size≤16777216) (hpos:0<len*size) (ps:List (Nat×Value)) (hp:(parts.map fun (i,x)=>(i,a.eval x)).toList=ps) (cs:Array Value)
  (hf:Instr.fill (fun i=>some (i*size,size)) ((Array.range (len*size)).map (z.cells[·%z.cells.size]!)) ps=some cs)
  (h:∀b w1,St B w0 ((b,cs,e)::L) w1→w.heap.size≤b→Below w.heap.size w w1→wpList P ops Q rest (a.put o.dst (.slice (some ⟨b,0,none⟩) len len)) w1):wpList P ops Q (o::rest) a w:=by
 refine zCP hgd fun K hK=>?_
 cases hq:P.info? e with
 |none=>simp[hq] at hz
 |some i =>
  have hi:i.zero=some z:=by simpa[hq] using hz
  have hs:i.size=size:=by simpa[hq] using hsize
  subst hs;subst hp;have hrun:(Instr.buildSlice t len (parts.map fun (i,x)=>(i,a.eval x))).run P w=.ok (.slice (some ⟨w.heap.size,0,none⟩) len len) (w.alloc (.cells cs e)):=by
   have n1:¬len*i.size>2^24:=by omega
   have n2:¬len*i.size=0:=by omega
   simp only[Instr.buildSlice,Sem.run_bind,run_underlying ht,Result.andThen_ok,sizeOf,typeInfo,run_program,hq,Sem.run_pure,n1,n2,if_false,zeroValue,hi,hf,newRow,run_newObj];rfl
  unfold Oper.wp execOp;simp only[ho,Sem.run_bind,hrun,Result.andThen_ok,Sem.run_pure,Oper.upon];exact hK _ _ (h _ _ (st.new cs e) (Nat.le_refl _) ((Below.refl _ _).alloc (Nat.le_refl _) _))
end
theorem take_snoc(a:List Nat)(k:Nat)(hk:k<a.length):a.take (k+1)=a.take k++[a.getD k 0]:=by
 rw[List.take_add_one,List.getD_eq_getElem?_getD,List.getElem?_eq_getElem hk];rfl
set_option maxRecDepth 20000 in
theorem two_calls(t:Nat)(a b:List Nat)(ha:a.length=32)(hb:b.length=32)(w:World) :
  Calls Tryz.prog 91 #[.int .u8 (t:Nat),.agg (kv a),.agg (kv b)] w fun e w'=>∃v',e=.returned v'∧RdB w' v' (t::(a++b))∧Below w.heap.size w w':=by
 have HA:=Lib.hid ha;have HB:=Lib.hid hb;have st:=St.init w;go_enter Tryz.func91,Tryz.ntmps91;go_upto_region 3 with (first
  |(refine zAD st rfl 36 _ rfl _ rfl ?_;intro b4 w1 st1;clear st)
  |(refine zAD st1 rfl 36 _ rfl _ rfl ?_;intro b5 w2 st2;clear st1)
  |((with_reducible refine zBP 22 ?_);refine wpList_buildSliceN st2 rfl 22 1 _ rfl 5 zCC _ 1 zDU zCN (by decide) (by decide) [(0,.int .u8 (t:Nat))] ?_ _ (fillK t) ?_;(·first | (simp[Act.eval];done) | rfl);intro b3 w3 st3 hle3 hb3;have hM4:=zAG (st2.at (i:=1) rfl);have hM5:=zAG (st2.at (i:=0) rfl);clear st2))
 have hM:∀p∈[(b5,kv b,36),(b4,kv a,36)],p.1<b3:=fun p hp=>by
  rcases List.mem_cons.1 hp with rfl | hp
  ·exact Nat.lt_of_lt_of_le hM5 hle3
  ·rw[List.mem_singleton.1 hp];exact Nat.lt_of_lt_of_le hM4 hle3
 have HM:=Lib.hid hM;have HB3:=Lib.hid (st3.above (i:=0) rfl);clear hM hM4 hM5 hle3 hb3;obtain⟨F,hF⟩:∃F:Nat→List Nat,∀k,F k=t::a.take k:=⟨_,fun _=>rfl⟩
 obtain⟨G,hG⟩:∃G:Nat→List Nat,∀k,G k=(t::a)++b.take k:=⟨_,fun _=>rfl⟩
 have HF:=Lib.hid hF;have HG:=Lib.hid hG;clear hF hG
 go_loopw [7,8] (fun out i wr=>∃k:Nat,k≤32∧i=.int .i64 (k:Nat)∧wr.ownsRow b3 5 1 out (F k).length (zAJ (F k))∧St w.heap.size w [(b5,kv b,36),(b4,kv a,36)] wr∧b3≤wr.heap.size) (fun _ i _=>(32 - intOf i).toNat)
 case atStart=>exact⟨0,Nat.zero_le _,rfl,by rw[HF.out];exact ownsRow_one (Nat.le_refl _) (st3.at (i:=0) rfl),st3.drop,Nat.le_of_lt (zAG (st3.at (i:=0) rfl))⟩
 case round =>
  obtain⟨k,hk,rfl,hown,st4,hsz⟩:=hrel;obtain⟨a6,c6,rfl⟩:=zDN hown;clear st3
  by_cases hlt:k<32
  ·have hki:((k:Nat):Int)<32:=by omega
   have hcell:wr.cell? ⟨b4,k,none⟩=some (.int .u8 (a.getD k 0:Nat)):=(st4.cell (i:=1) rfl k).trans (zFX a k (by rw[HA.out];exact hlt));have Hs:Hid (F (k+1)=F k++[a.getD k 0]):=by unfold Hid;rw[HF.out,HF.out,take_snoc a k (by rw[HA.out];exact hlt)];rfl
   have Hm:Hid ((F k).length≤33):=by unfold Hid;rw[HF.out];simp;omega
   generalize a.getD k 0=X at *;generalize F k=Y at hown Hs Hm ⊢
   go_wp2_with (first
    |((with_reducible refine zBP 22 ?_);refine zAR st4 rfl 22 1 _ rfl 5 zCC _ 1 zDU zCN (by decide) (by decide) [(0,.int .u8 (X:Nat))] ?_ _ (fillK X) ?_;(·first | (simp[Act.eval];done) | rfl);intro b7 w7 st7 hb7;have hown7:=zAY hown hb7;have hsz7:=Nat.le_trans hsz hb7.size;clear st4 hown hcell)
    |(at_builtin;refine zCE (base:=b3) st7.drop HM.out HB3.out rfl _ _ 22 rfl 5 (.int .u8 0) 1 zCC zDU zCN zFD rfl _ Y.length (zAJ Y) rfl hown7 (.slice (some ⟨b7,0,none⟩) 1 1) [X] rfl (RdB.row (by show 1≤maxLen;decide) (st7.at (i:=0) rfl)) (by have:=Hm.out;unfold maxLen;simp;omega) (by have:=Hm.out;simp;omega) hsz7 ?_;intro v8 w8 st8 hown8 hsz8 _;clear st7 hown7;have hown9:=own_snoc hown8;clear hown8))
   go_roundw
   case rel=>exact⟨k+1,hlt,rfl,by rw[Hs.out];exact hown9,st8,hsz8⟩
   case measure=>simp[intOf];omega
  ·obtain rfl:k=32:=by omega
   have HG0:Hid (F 32=G 0):=by unfold Hid;rw[HF.out,HG.out,List.take_of_length_le (Nat.le_of_eq HA.out)];simp
   rw[HG0.out] at hown ⊢;clear hk hlt;go_upto_region 7 with (first | (fail "x"))
   go_loopw [7,9] (fun out i wr=>∃k:Nat,k≤32∧i=.int .i64 (k:Nat)∧wr.ownsRow b3 5 1 out (G k).length (zAJ (G k))∧St w.heap.size w [(b5,kv b,36),(b4,kv a,36)] wr∧b3≤wr.heap.size) (fun _ i _=>(32 - intOf i).toNat)
   case atStart=>exact⟨0,Nat.zero_le _,rfl,hown,st4,hsz⟩
   case round =>
    obtain⟨k,hk,rfl,hown,st4,hsz⟩:=hrel;obtain⟨a6,c6,rfl⟩:=zDN hown
    by_cases hlt:k<32
    ·have hki:((k:Nat):Int)<32:=by omega
     have hcell:wr.cell? ⟨b5,k,none⟩=some (.int .u8 (b.getD k 0:Nat)):=(st4.cell (i:=0) rfl k).trans (zFX b k (by rw[HB.out];exact hlt));have Hs:Hid (G (k+1)=G k++[b.getD k 0]):=by unfold Hid;rw[HG.out,HG.out,take_snoc b k (by rw[HB.out];exact hlt),List.append_assoc]
     have Hm2:Hid ((G k).length≤65):=by unfold Hid;rw[HG.out];simp[HA.out];omega
     generalize b.getD k 0=X at *;generalize G k=Y at hown Hs Hm2 ⊢
     go_wp2_with (first
      |((with_reducible refine zBP 22 ?_);refine zAR st4 rfl 22 1 _ rfl 5 zCC _ 1 zDU zCN (by decide) (by decide) [(0,.int .u8 (X:Nat))] ?_ _ (fillK X) ?_;(·first | (simp[Act.eval];done) | rfl);intro b7 w7 st7 hb7;have hown7:=zAY hown hb7;have hsz7:=Nat.le_trans hsz hb7.size;clear st4 hown hcell)
      |(at_builtin;refine zCE (base:=b3) st7.drop HM.out HB3.out rfl _ _ 22 rfl 5 (.int .u8 0) 1 zCC zDU zCN zFD rfl _ Y.length (zAJ Y) rfl hown7 (.slice (some ⟨b7,0,none⟩) 1 1) [X] rfl (RdB.row (by show 1≤maxLen;decide) (st7.at (i:=0) rfl)) (by have:=Hm2.out;unfold maxLen;simp;omega) (by have:=Hm2.out;simp;omega) hsz7 ?_;intro v8 w8 st8 hown8 hsz8 _;clear st7 hown7;have hown9:=own_snoc hown8;clear hown8))
     go_roundw
     case rel =>
      have hown10:w8.ownsRow b3 5 1 v8 (G (k+1)).length (zAJ (G (k+1))):=by rw[Hs.out];exact hown9
      first | exact⟨k+1,hlt,rfl,hown10,st8,hsz8⟩ | exact⟨k+1,hlt,rfl,hown10⟩ | exact⟨k+1,hlt,hown10,st8,hsz8⟩ | (trace_state;fail "no")
     case measure=>simp[intOf];omega
    ·obtain rfl:k=32:=by omega
     have HGe:Hid (G 32=t::(a++b)):=by unfold Hid;rw[HG.out,List.take_of_length_le (Nat.le_of_eq HB.out)];rfl
     have hrd:=RdB.own hown;rw[HGe.out] at hrd;go_wp2;go_ret;refine⟨_,rfl,?_,st4.below⟩;rw[HGe.out];exact hrd
theorem LeafR_calls(k d:List Nat)(hk:k.length=32)(hd:d.length=32)(w:World) :
  Calls Tryz.prog 50 #[.agg (kv (k++d))] w fun e w'=>∃v',e=.returned v'∧RdB w' v' (0::(k++d))∧Below w.heap.size w w':=by
 have HT:=Lib.hid (fun wx=>two_calls 0 k d hk hd wx);have hl:(k++d).length=64:=by rw[List.length_append,hk,hd]
 have HS:Hid ((kv (k++d)).size=64):=by unfold Hid;rw[zAF,hl]
 have H1:Hid ((kv (k++d)).extract 0 (0+32)=kv k):=by unfold Hid;rw[zDY _ 0 32 (by omega),List.drop_zero,List.take_left' hk]
 have H2:Hid ((kv (k++d)).extract 32 (32+32)=kv d):=by unfold Hid;rw[zDY _ 32 32 (by omega),List.drop_left' hk,List.take_of_length_le (by omega)]
 clear hk hd hl;have st:=St.init w;generalize kv (k++d)=X at *;go_enter Tryz.func50,Tryz.ntmps50
 go_wp2_with (first
  |(refine zAD st rfl 40 _ rfl X rfl ?_;intro b1 w1 st1;clear st)
  |((with_reducible refine zBA 37 ?_);refine zAP rfl 37 _ rfl b1 0 32 rfl zBN _ _ _ (st1.at (i:=0) rfl) zBC (by show 0+32≤X.size;rw[HS.out];decide) _ H1.out ?_)
  |((with_reducible refine zBA 38 ?_);refine zAP rfl 38 _ rfl b1 32 32 rfl zFZ _ _ _ (st1.at (i:=0) rfl) zBV (by show 32+32≤X.size;rw[HS.out];decide) _ H2.out ?_)
  |(go_at_call 91;refine(HT.out _).mono ?_;rintro e w2 ⟨v',rfl,hrd,hb2⟩;have st2:=st1.call hb2))
 go_ret;exact⟨_,rfl,hrd,st2.below⟩
theorem NodeR_calls(l r:List Nat)(hl:l.length=32)(hr:r.length=32)(w:World) :
  Calls Tryz.prog 52 #[.agg (kv l),.agg (kv r)] w fun e w'=>∃v',e=.returned v'∧RdB w' v' (1::(l++r))∧Below w.heap.size w w':=by
 have HT:=Lib.hid (fun wx=>two_calls 1 l r hl hr wx);have HL:=Lib.hid hl;have HR:=Lib.hid hr;clear hl hr;have st:=St.init w;go_enter Tryz.func52,Tryz.ntmps52
 go_wp2_with (first
  |(refine zAD st rfl 38 _ rfl _ rfl ?_;intro b1 w1 st1;clear st)
  |(refine zAD st1 rfl 38 _ rfl _ rfl ?_;intro b2 w2 st2;clear st1)
  |((with_reducible refine zBA 38 ?_);refine zAC rfl 38 _ rfl b1 rfl _ zEE rfl _ _ (st2.at (i:=1) rfl) (zCA HL.out) ?_)
  |((with_reducible refine zBA 38 ?_);refine zAC rfl 38 _ rfl b2 rfl _ zEE rfl _ _ (st2.at (i:=0) rfl) (zCA HR.out) ?_)
  |(go_at_call 91;refine(HT.out _).mono ?_;rintro e w3 ⟨v',rfl,hrd,hb3⟩;have st3:=st2.call hb3))
 go_ret;exact⟨_,rfl,hrd,st3.below⟩
set_option maxRecDepth 20000 in
theorem LeafOfR_calls(bits:Int)(hB:bits≤256)(k l:List Nat)(v:Value)(w:World)(hk:k.length=32)(hby:∀x∈l,x<256)(hl:l.length≤1099511627770)(hv:RdB w v l) :
  Calls Tryz.prog 18 #[.int .i64 bits,.agg (kv k),v] w fun e w'=>e=.returned (.agg (kv (k++zBE zAK bits (2::l))))∧Below w.heap.size w w':=by
 have HV:=Lib.hid hv;have HBy:Hid (∀x∈2::l,x<256):=fun x hx=>by
  rcases List.mem_cons.1 hx with rfl | hx
  ·decide
  ·exact hby x hx
 have HD:=Lib.hid (zBG zAK bits (2::l)).len;have Hk:=Lib.hid hk;have HB:=Lib.hid hB;have Hl:=Lib.hid hl;clear hv hby hk hB;have st:=St.init w;obtain⟨z64,hz64,hz0⟩:=zeroLeafE;go_enter Tryz.func18,Tryz.ntmps18;go_upto_region 1 with (first
  |(refine zAD st rfl 37 _ rfl _ rfl ?_;intro b4 w1 st1;clear st)
  |((with_reducible refine zAW 40 ?_);refine zAE st1 rfl 40 rfl _ hz0 ?_;intro b6 w2 st2;clear st1))
 refine Mix.wp_region_mix 5 (St w.heap.size w [(b6,z64,40),(b4,kv k,37)]) zBL (by kernel_rfl) st2.drew ?_;intro F inv;refine Mix.good_batch (f:=2) F St.up [0,1,2] _ _ inv (by kernel_rfl) ?_;clear inv st2
 (refine Mix.wpUp_cons rfl (fun K hK=>?_);go_simp;refine zFB 37 _ rfl b4 rfl _ zBF rfl _ _ (fun wx hw=>hw.at (i:=1) rfl) (zAX Hk.out) ?_
  refine hK _ ?_;clear hK K)
 iterate 2
  (refine Mix.wpUp_cons rfl (fun K hK=>?_);go_simp;apply zAU;· (intro wx hw;go_simp;(try go_ints);(try go_simp);(try (rw[if_pos (by omega)]));(try go_simp);(first | done | rfl))
   refine hK _ ?_;clear hK K)
 refine Mix.wpUp_nil ?_;intro inv;refine Mix.good_one (i:=3) (by kernel_rfl) inv (fun w3 st3=>?_);clear inv;refine zAT rfl rfl 45 #[v] (by go_simp) ?_;refine(ValueR_calls l v w3 Hl.out (HV.out.call st3.below)).mono ?_;rintro e w4 ⟨v4,rfl,hv4,hbel⟩;refine⟨v4,rfl,fun wx=>St w.heap.size w [(b6,z64,40),(b4,kv k,37)] wx∧RdB wx v4 (2::l),fun wx wy h hb=>⟨h.1.call hb,h.2.call hb⟩,⟨st3.call hbel,hv4⟩,fun _ h=>h.1,fun inv=>?_⟩;clear st3 hbel hv4;refine Mix.good_one (i:=4) (by kernel_rfl) inv (fun w5 st5=>?_);clear inv;obtain⟨st5,hv5⟩:=st5;refine zAT rfl rfl 44 #[.int .i64 bits,v4] (by go_simp) ?_;refine(Sum5_calls bits HB.out (2::l) v4 w5 HBy.out (by have:=Hl.out;simp;omega) hv5).mono ?_;rintro e w6 ⟨rfl,hb6⟩;refine⟨_,rfl,fun wx=>St w.heap.size w [(b6,z64,40),(b4,kv k,37)] wx∧RdB wx v4 (2::l),fun wx wy h hb=>⟨h.1.call hb,h.2.call hb⟩,⟨st5.call hb6,hv5.call hb6⟩,fun _ h=>h,fun inv=>?_⟩;clear st5 hv5 hb6 inv F;refine⟨by kernel_rfl,fun w8 h8=>?_⟩;have st8:=h8.1;clear h8;simp only[List.drop_succ_cons,List.drop_zero,Act.put,List.getElem_toArray,List.getElem_cons_succ,List.getElem_cons_zero,List.setIfInBounds_toArray,List.set_cons_succ,List.set_cons_zero]
 generalize hDg:zBE zAK bits (2::l)=D at *
 go_wp2_with (first
  |((with_reducible refine zEG 40 ?_);refine zAM rfl 40 _ rfl (zBB 0 [.agg (kv k),.agg (kv D)]) ?_ _ (builtLeaf k D Hk.out HD.out) ?_;(·(simp[Act.eval,zBB];done)))
  |((with_reducible refine zAN 40 ?_);refine zAA st8 rfl 40 _ _ rfl 0 b6 rfl (.agg (kv (k++D))) rfl _ _ rfl (zHJ (by simp[Hk.out,HD.out])) (by show (kv (k++D)).size=_;rw[zAF,hz64];simp[Hk.out,HD.out]) (zBJ _) _ rfl ?_;intro w9 st9;clear st8))
 obtain⟨dL,hdL,hagg⟩:=aggLeaf;exact zBX rfl b6 _ _ _ rfl (st9.at (i:=0) rfl) hdL hagg (zHJ (by simp[Hk.out,HD.out])) rfl ⟨by rw[hDg];rfl,st9.below⟩
end
section
open Go Go.RowKit
def CellsAt(w:World)(b off:Nat)(cs:List Value):Prop:=∀(j:Nat)(v:Value),cs[j]?=some v→w.cell? ⟨b,off+j,none⟩=some v
theorem CellsAt.call{w w':World}{b off:Nat}{cs:List Value}(h:CellsAt w b off cs)(hb:Below w.heap.size w w'):CellsAt w' b off cs:=fun j v hv=>by
 have h1:=h j v hv;rw[hb.cell (zAS h1)];exact h1
theorem CellsAt.row{w:World}{b off n:Nat}{cur:Array Value}{t:TypeId}{fr:Nat×Nat}{cs:List Value}(h:w.heap[b]?=some (.cells cur t fr))(hc:(cur.toList.drop off).take n=cs):CellsAt w b off cs:=fun j v hv=>by
 subst hc;rw[List.getElem?_take] at hv
 split at hv
 ·rw[List.getElem?_drop] at hv
  simp only[World.cell?,h,Option.isSome_none,Bool.false_eq_true,if_false];rw[←Array.getElem?_toList];exact hv
 ·cases hv
theorem CellsAt.sub{w:World}{b off:Nat}{cs:List Value}(h:CellsAt w b off cs)(o n:Nat):CellsAt w b (off+o) ((cs.drop o).take n):=fun j v hv=>by
 rw[List.getElem?_take] at hv
 split at hv
 ·rw[List.getElem?_drop] at hv
  have:=h (o+j) v hv
  rwa [←Nat.add_assoc] at this
 ·cases hv
theorem CellsAt.turn{w w':World}{b off:Nat}{cs:List Value}{row:Option Nat}(h:CellsAt w b off cs)(hg:w.grownBy w' row)(hr:row≠some b):CellsAt w' b off cs:=fun j v hv=>by
 have h1:=h j v hv;have hlt:=zAS h1;rw[World.cell?_of_block (w:=w) (hg.block b hlt (fun e=>hr e.symm))];exact h1
theorem zHK{P:Program}{ty:TypeId}{cs:List Value}(hagg:∃d,P.underlying ty=some d∧zGJ d=true)(hi:(P.info? ty).map (·.size)=some cs.length){w:World}{b off:Nat}(hc:CellsAt w b off cs) :
  (loadVar ty ⟨b,off,none⟩).run P w=.ok (.agg cs.toArray) w:=by
 obtain⟨d,hu,hd⟩:=hagg;have hcells:=run_loadCells_list (P:=P) w ⟨b,off,none⟩ cs (fun j v hv=>by
  have hadd:(⟨b,off,none⟩:Addr).add j=⟨b,off+j,none⟩:=by unfold Addr.add;split<;>simp_all
  rw[hadd];exact hc j v hv)
 cases hq:P.info? ty with
 |none=>simp[hq] at hi
 |some i =>
  have hs:i.size=cs.length:=by simpa[hq] using hi
  have hag:(isAgg ty).run P w=.ok true w:=by
   unfold isAgg;rw[Sem.run_bind,run_underlying hu w]
   cases d<;>simp_all [zGJ]
  simp[loadVar,Sem.run_bind,hag,sizeOf,typeInfo,hq,hs,hcells]
section
variable {P:Program} {ops:Array Oper} {rest:List Oper} {o:Oper} {a:Act} {w:World} {Q:Exit→Act→World→Prop}
theorem zBR(hgd:Region.wanted o (yielded ops a.tmps)=true)(ty:TypeId)(x:Operand)(ho:o.op=.load ty x)
  (b off:Nat) (hx:a.eval x=.pointer (some ⟨b,off,none⟩)) (hagg:∃d,P.underlying ty=some d∧zGJ d=true) (cs:List Value) (hi:(P.info? ty).map (·.size)=some cs.length) (hc:CellsAt w b off cs)
  (h:wpList P ops Q rest (a.put o.dst (.agg cs.toArray)) w):wpList P ops Q (o::rest) a w:=by
 refine zCP hgd fun K hK=>?_
 unfold Oper.wp execOp;have hl:=zHK (P:=P) hagg hi hc;simp only[ho,hx,Instr.loadAt,Instr.sureAddr,Sem.run_bind,Sem.run_pure,Result.andThen_ok,hl,Oper.upon];exact hK _ _ h
theorem zHD{I:World→Prop}{F:Value→Prop}(ty:TypeId)(x:Operand)(ho:o.op=.load ty x)
  (b off:Nat) (hx:a.eval x=.pointer (some ⟨b,off,none⟩)) (hagg:∃d,P.underlying ty=some d∧zGJ d=true) (cs:List Value) (hi:(P.info? ty).map (·.size)=some cs.length)
  (hc:∀w,I w→CellsAt w b off cs) (hF:F (.agg cs.toArray)):∃v,Inv.OpInv P I o a v∧F v:=by
 refine⟨_,fun w hw=>?_,hF⟩;unfold execOp;have hl:=zHK (P:=P) hagg hi (hc w hw);simp only[ho,hx,Instr.loadAt,Instr.sureAddr,Sem.run_bind,Sem.run_pure,Result.andThen_ok,hl];exact⟨rfl,hw⟩
theorem up_loadG{I:World→Prop}{F:Value→Prop}(ty:TypeId)(x:Operand)(ho:o.op=.load ty x)
  (b off:Nat) (hx:a.eval x=.pointer (some ⟨b,off,none⟩)) (hagg:∃d,P.underlying ty=some d∧zGJ d=true) (cs:List Value) (hi:(P.info? ty).map (·.size)=some cs.length)
  (hc:∀w,I w→CellsAt w b off cs) (hF:F (.agg cs.toArray)):∃v,Mix.OpUp P I o a v∧F v:=by
 refine⟨_,fun w hw=>?_,hF⟩;unfold execOp;have hl:=zHK (P:=P) hagg hi (hc w hw);simp only[ho,hx,Instr.loadAt,Instr.sureAddr,Sem.run_bind,Sem.run_pure,Result.andThen_ok,hl,Mix.ResUp];exact⟨trivial,Below.refl _ _⟩
end
def RdG{α:Type}(sz:Nat)(f:α→List Value)(w:World)(v:Value)(l:List α):Prop :=
 (∀x∈l,(f x).length=sz)∧l.length≤1099511627776∧∃a c,v=.slice a l.length c∧l.length≤c ∧
  (l≠[]→∃b off,a=some ⟨b,off,none⟩∧∀i (hi:i<l.length),CellsAt w b (off+i*sz) (f l[i]))
section
variable {α:Type} {sz:Nat} {f:α→List Value} {w w':World} {v:Value} {l:List α}
theorem RdG.call(h:RdG sz f w v l)(hb:Below w.heap.size w w'):RdG sz f w' v l:=by
 obtain⟨h1,h2,a,c,h3,h4,h5⟩:=h;refine⟨h1,h2,a,c,h3,h4,fun hn=>?_⟩;obtain⟨b,off,e1,e2⟩:=h5 hn;exact⟨b,off,e1,fun i hi=>(e2 i hi).call hb⟩
theorem RdG.nil(w:World):RdG sz f w (.slice none 0 0) ([]:List α):=⟨fun _ h=>(List.not_mem_nil h).elim,Nat.zero_le _,none,0,rfl,Nat.le_refl _,fun h=>absurd rfl h⟩
theorem RdG.form(h:RdG sz f w v l):∃a c,v=.slice a l.length c∧l.length≤c:=by
 obtain⟨_,_,a,c,h3,h4,_⟩:=h;exact⟨a,c,h3,h4⟩
theorem RdG.at(h:RdG sz f w v l)(hn:l≠[]):∃b off c,v=.slice (some ⟨b,off,none⟩) l.length c∧l.length≤c∧Hid (∀w',Below w.heap.size w w'→∀i (hi:i<l.length),CellsAt w' b (off+i*sz) (f l[i])):=by
 obtain⟨_,_,a,c,rfl,h4,h5⟩:=h;obtain⟨b,off,rfl,e2⟩:=h5 hn;exact⟨b,off,c,rfl,h4,fun w' hb i hi=>(e2 i hi).call hb⟩
theorem zEW(h:∀x∈l,(f x).length=sz):(l.flatMap f).length=l.length*sz:=by
 induction l with
 |nil=>simp
 |cons x l ih =>
  rw[List.flatMap_cons,List.length_append,h x List.mem_cons_self,ih (fun y hy=>h y (List.mem_cons_of_mem _ hy)),List.length_cons,Nat.succ_mul];omega
theorem flatG_at(h:∀x∈l,(f x).length=sz)(i:Nat)(hi:i<l.length):((l.flatMap f).drop (i*sz)).take sz=f l[i]:=by
 have hx:=h l[i] (List.getElem_mem _);have hsplit:l=l.take i++l[i]::l.drop (i+1):=by rw[←List.drop_eq_getElem_cons hi,List.take_append_drop]
 have hpre:((l.take i).flatMap f).length=i*sz:=by
  rw[zEW (fun x hx=>h x (List.mem_of_mem_take hx)),List.length_take,Nat.min_eq_left (by omega)]
 have e5:l.flatMap f=(l.take i).flatMap f++(f l[i]++(l.drop (i+1)).flatMap f):=by
  conv=>lhs;rw[hsplit]
  rw[List.flatMap_append,List.flatMap_cons]
 rw[e5,List.drop_left' hpre,List.take_left' hx]
theorem RdG.own{base:Nat}{e:TypeId}(hl:∀x∈l,(f x).length=sz)(hn:l.length≤1099511627776)(h:w.ownsRow base e sz v l.length (l.flatMap f)):RdG sz f w v l:=by
 refine⟨hl,hn,?_⟩;rcases h.2 with ⟨rfl,h0⟩ | ⟨g,cap,cur,rfl,_,hg,hle,hcap,hsz,htake⟩
 ·exact⟨none,0,by rw[h0],by omega,fun h=>absurd (List.eq_nil_of_length_eq_zero h0) h⟩
 ·refine⟨_,cap,rfl,hle,fun _=>⟨g,0,rfl,fun i hi=>?_⟩⟩
  have h1:=flatG_at hl i hi;rw[←htake,List.drop_take,List.take_take] at h1;rw[Nat.zero_add];exact CellsAt.row hg h1
end
end
section
set_option maxHeartbeats 1000000
open Go Go.RowKit
attribute [local irreducible] Inv.wpInv Mix.wpUp
def zFF(k v:Nat):Int:=if k=32 then (if v≤65535 then 0 else 3) else 2
theorem zFA(a b:Option Addr)(k kc v vc:Nat)(w:World):Calls Tryz.prog 66 #[.slice a k kc,.slice b v vc] w fun e w'=>e=.returned (.int .i64 (zFF k v))∧w'=w:=by
 by_cases h:k=32
 ·subst h
  by_cases h2:v≤65535
  ·have e:zFF 32 v=0:=by unfold zFF;rw[if_pos rfl,if_pos h2]
   rw[e];have h3:((v:Nat):Int)≤65535:=by omega
   go_enter Tryz.func66,Tryz.ntmps66;go_wp2;go_ret;exact⟨rfl,rfl⟩
  ·have e:zFF 32 v=3:=by unfold zFF;rw[if_pos rfl,if_neg h2]
   rw[e];have h3:(65535:Int)<(v:Nat):=by omega
   go_enter Tryz.func66,Tryz.ntmps66;go_wp2;go_ret;exact⟨rfl,rfl⟩
 ·have e:zFF k v=2:=by unfold zFF;rw[if_neg h]
  rw[e];have h3:(((k:Nat):Int) != 32)=true:=by simp;omega
  go_enter Tryz.func66,Tryz.ntmps66;go_wp2;go_ret;exact⟨rfl,rfl⟩
set_option maxRecDepth 20000 in
theorem OfR_calls(l:List Nat)(v:Value)(w:World)(hl:32≤l.length)(hv:RdB w v l) :
  Calls Tryz.prog 68 #[v] w fun e w'=>e=.returned (.agg (kv (l.take 32)))∧Below w.heap.size w w':=by
 obtain⟨a,c,rfl,Hc⟩:=hv.open;obtain⟨b,off,rfl,hc⟩:=Hc.out (by omega);have HC:=Lib.hid hc;have HL:=Lib.hid hl;have hli:(32:Int)≤(l.length:Nat):=by omega
 obtain⟨F,hF⟩:∃F:Nat→List Nat,∀k,F k=l.take k++List.replicate (32 - k) 0:=⟨_,fun _=>rfl⟩
 have HF:=Lib.hid hF;have HFl:Hid (∀k,k≤32→(F k).length=32):=fun k hk=>by rw[hF];simp;omega
 have HF0:Hid (F 0=zAH):=by unfold Hid;rw[hF];rfl
 have HFe:Hid (F 32=l.take 32):=by unfold Hid;rw[hF];simp
 have HFs:Hid (∀k,k<32→(F k).set k (l.getD k 0)=F (k+1)):=fun k hk=>by
  rw[hF,hF,List.set_append,if_neg (by simp;omega),show k - (l.take k).length=0 by simp;omega,show 32 - k=(32 - (k+1))+1 by omega,List.replicate_succ,List.set_cons_zero,take_snoc l k (by omega),List.append_assoc];rfl
 clear hv Hc hc hF hl;have st:=St.init w;go_enter Tryz.func68,Tryz.ntmps68;go_upto_region 3 with (first
  |((with_reducible refine zAW 37 ?_);refine zAE st rfl 37 rfl _ zEL ?_;intro b2 w1 st1;clear st)
  |((with_reducible refine zAW 37 ?_);refine zAE st1 rfl 37 rfl _ zEL ?_;intro b3 w2 st2;clear st1))
 go_loopw [4] (fun i wr=>∃k:Nat,k≤32∧i=.int .i64 (k:Nat)∧St w.heap.size w [(b3,kv (F k),37),(b2,kv zAH,37)] wr) (fun i _=>(32 - intOf i).toNat)
 case atStart=>exact⟨0,Nat.zero_le _,rfl,by rw[HF0.out];exact st2⟩
 case round =>
  obtain⟨k,hk,rfl,st3⟩:=hrel;clear st2
  by_cases hlt:k<32
  ·have hki:((k:Nat):Int)<32:=by omega
   have hkl:((k:Nat):Int)<(l.length:Nat):=by omega
   have hcell:=HC.out wr st3.below k (by have:=HL.out;omega);have Hrow:Hid ((kv (F k)).setIfInBounds k (.int .u8 (l.getD k 0:Nat))=kv (F (k+1))):=by
    unfold Hid;rw[←HFs.out k hlt,←kv_set]
   have Hsz:Hid (k<(kv (F k)).size):=by unfold Hid;rw[zAF,HFl.out k hk];exact hlt
   generalize l.getD k 0=X at *
   go_wp2_with (first
    |((with_reducible refine zAN 5 ?_);refine zDG st3 rfl 5 _ _ rfl 0 b3 k rfl (.int .u8 (X:Nat)) rfl _ _ rfl zCN rfl Hsz.out rfl _ Hrow.out _ rfl ?_;intro w5 st5;clear st3))
   go_roundw
   case rel=>exact⟨k+1,hlt,rfl,st5⟩
   case measure=>simp[intOf];omega
  ·obtain rfl:k=32:=by omega
   rw[HFe.out] at st3;have Hl2:Hid ((l.take 32).length=32):=by have:=HL.out;unfold Hid;simp;omega
   generalize hT:l.take 32=T at *
   go_wp2_with (first
    |((with_reducible refine zBA 37 ?_);refine zAC rfl 37 _ rfl b3 rfl _ zBF rfl _ _ (st3.at (i:=0) rfl) (zAX Hl2.out) ?_)
    |((with_reducible refine zAN 37 ?_);refine zAA st3 rfl 37 _ _ rfl 1 b2 rfl (.agg (kv T)) rfl _ _ rfl (zAX Hl2.out) (by show (kv T).size=_;rw[zAF,Hl2.out,zAF];rfl) (zBJ T) _ rfl ?_;intro w5 st5;clear st3))
   exact zBX rfl b2 _ _ _ rfl (st5.at (i:=1) rfl) zBF rfl (zAX Hl2.out) rfl ⟨by rw[hT];rfl,st5.below⟩
set_option maxRecDepth 20000 in
theorem SameR_calls(x y:List Nat)(v u:Value)(w:World)(hv:RdB w v x)(hu:RdB w u y) :
  Calls Tryz.prog 71 #[v,u] w fun e w'=>e=.returned (.bool (decide (x=y)))∧Below w.heap.size w w':=by
 obtain⟨a,c,rfl,Hc⟩:=hv.open;obtain⟨a',c',rfl,Hc'⟩:=hu.open;have hlx:=hv.1;unfold maxLen at hlx;clear hv hu
 by_cases hlen:x.length=y.length
 ·have HX:=Lib.hid Hc
  have HY:=Lib.hid Hc';have HL:=Lib.hid hlen;have HP:Hid (∀b:Bool,b=decide (x=y)→Ending.returned (Value.bool b)=.returned (.bool (decide (x=y)))):=fun b hb=>by rw[hb]
  have st:=St.init w;have hxy:((y.length:Nat):Int)=(x.length:Nat):=by omega
  clear Hc Hc';rw[←hlen];clear hlen;go_enter Tryz.func71,Tryz.ntmps71;go_upto_region 4 with (first | (fail "x"))
  go_loopw [5] (fun i wr=>∃k:Nat,k≤x.length∧i=.int .i64 (k:Nat)∧Hid (∀j<k,x.getD j 0=y.getD j 0)∧St w.heap.size w [] wr) (fun i _=>((x.length:Int) - intOf i).toNat)
  case atStart=>exact⟨0,Nat.zero_le _,rfl,fun j hj=>absurd hj (Nat.not_lt_zero _),st⟩
  case round =>
   obtain⟨k,hk,rfl,Hsame,st1⟩:=hrel;clear st
   by_cases hlt:k<x.length
   ·have hki:((k:Nat):Int)<(x.length:Nat):=by omega
    obtain⟨b1,o1,rfl,hc1⟩:=HX.out.out (by omega);obtain⟨b2,o2,rfl,hc2⟩:=HY.out.out (by have:=HL.out;omega);have q0:Hid (∀wx,Below w.heap.size w wx→wx.cell? ⟨b1,o1+k,none⟩=some (.int .u8 (x.getD k 0:Nat))∧wx.cell? ⟨b2,o2+k,none⟩=some (.int .u8 (y.getD k 0:Nat))):=fun wx hb=>⟨hc1 wx hb k hlt,hc2 wx hb k (by have:=HL.out;omega)⟩
    clear hc1 hc2;have Hn:Hid (x.getD k 0=y.getD k 0→∀j<k+1,x.getD j 0=y.getD j 0):=fun h j hj=>by
     by_cases e:j=k
     ·rw[e];exact h
     ·exact Hsame.out j (by omega)
    have Hd:Hid (x.getD k 0≠y.getD k 0→decide (x=y)=false):=fun h=>decide_eq_false fun e=>h (by rw[e])
    generalize x.getD k 0=X at *;generalize y.getD k 0=Y at *;go_upto_region 6 with (first | (fail "x"))
    refine zBH 9 st1 zBL (by kernel_rfl) ?_;intro I hI hI';have q:=fun wx (hw:I wx)=>q0.out wx (hI wx hw).below
    simp only[List.take_succ_cons,List.take_zero,List.drop_succ_cons,List.drop_zero]
    iterate 9
     (refine Inv.wpInv_step (fun K hK=>?_);go_simp;apply zAL;· (intro wx hw;have q1:=q wx hw;go_simp;(try go_ints);(try go_simp);(try (rw[if_pos (by omega)]));(try go_simp);(first | done | rfl))
      refine hK _ ?_;clear hK K)
    clear q hI hI';refine Inv.wpInv_nil ?_;intro w2 st2;clear st1
    by_cases he:X=Y
    ·have hb:(((X:Nat):Int) != (Y:Nat))=false:=by rw[he];simp
     go_wp2;go_roundw
     case rel=>exact⟨k+1,hlt,rfl,Hn.out he,st2⟩
     case measure=>simp[intOf];omega
    ·have hb:(((X:Nat):Int) != (Y:Nat))=true:=by simp;omega
     go_wp2;go_ret;exact⟨HP.out _ (Hd.out he).symm,st2.below⟩
   ·have e:decide (x=y)=true:=decide_eq_true (by
     apply List.ext_getElem HL.out;intro j h1 h2;have h:=Hsame.out j (by omega);rw[List.getD_eq_getElem?_getD,List.getD_eq_getElem?_getD,List.getElem?_eq_getElem h1,List.getElem?_eq_getElem h2] at h;exact h)
    have hki:((x.length:Nat):Int)≤(k:Nat):=by omega
    go_wp2;go_ret;exact⟨HP.out _ e.symm,st1.below⟩
 ·have hd:decide (x=y)=false:=decide_eq_false fun e=>hlen (by rw[e])
  have hne:(((x.length:Nat):Int) != (y.length:Nat))=true:=by simp;omega
  rw[hd];clear hlen hd;generalize x.length=n at *;generalize y.length=m at *;go_enter Tryz.func71,Tryz.ntmps71;go_wp2;go_ret;exact⟨rfl,Below.refl _ _⟩
end
section
set_option maxHeartbeats 2000000
open Go Go.RowKit
attribute [local irreducible] Inv.wpInv Mix.wpUp
def zFS(e:List Nat×Value):List Value:=zAJ e.1++[e.2]
theorem zGO(e:List Nat×Value)(h:e.1.length=32):(zFS e).length=33:=by simp[zFS,zAI,h]
theorem entc_key(e:List Nat×Value)(h:e.1.length=32):((zFS e).drop 0).take 32=zAJ e.1:=by
 rw[List.drop_zero];exact List.take_left' (by rw[zAI,h])
theorem zGX:(Tryz.prog.info? 52).bind (·.zero)=some (.agg (zFS (zAH,.slice none 0 0)).toArray):=by kernel_rfl
theorem zDA:(Tryz.prog.info? 52).map (·.size)=some 33:=by kernel_rfl
theorem zHN:(Tryz.prog.info? 52).map (·.bytes)=some 56:=by kernel_rfl
theorem zDK:Tryz.prog.underlying 54=some (.slice 52):=by kernel_rfl
theorem aggEnt:∃d,Tryz.prog.underlying 52=some d∧zGJ d=true:=by
 have h:(Tryz.prog.underlying 52).map zGJ=some true:=by kernel_rfl
 cases hq:Tryz.prog.underlying 52 with
 |none=>rw[hq] at h;cases h
 |some d=>rw[hq] at h;exact⟨d,rfl,Option.some.inj h⟩
theorem fillOne{z:Value}{X:Array Value}(sz:Nat)(hX:X.size=sz):Instr.fill (fun i=>some (i*sz,sz)) ((Array.range (1*sz)).map (z.cells[·%z.cells.size]!)) [(0,.agg X)]=some X:=by
 have hzs:((Array.range (1*sz)).map (z.cells[·%z.cells.size]!)).size=sz:=by simp
 generalize (Array.range (1*sz)).map (z.cells[·%z.cells.size]!)=y at *;have hc:(Value.agg X).cells.size=sz:=hX;rw[zEK (off:=0) (by rw[hc];simp) (by rw[hc,hzs];omega)];have e:=zEB [] y.toList [] (.agg X) 0 rfl (by simp[hzs,hc]);simp only[List.nil_append,List.append_nil,Array.toArray_toList] at e;rw[e];simp[Instr.fill,Value.cells]
abbrev RdEs(w:World)(v:Value)(es:List (List Nat×Value)):Prop:=RdG 33 zFS w v es
theorem entc_one(e:List Nat×Value)(h:e.2.oneCell'=true):∀u∈(zFS e).toArray.toList,u.oneCell'=true:=by
 intro u hu;rcases List.mem_append.1 (show u∈zAJ e.1++[e.2] from hu) with hu | hu
 ·rw[←zCJ] at hu
  exact zBJ _ _ hu
 ·rw[List.mem_singleton.1 hu]
  exact h
theorem own_mono{w:World}{base base' n size:Nat}{e:TypeId}{v:Value}{xs:List Value}(h:w.ownsRow base e size v n xs)(hb:base'≤base):w.ownsRow base' e size v n xs:=by
 refine⟨h.1,?_⟩;rcases h.2 with h | ⟨g,cap,cur,h1,h2,h3⟩
 ·exact .inl h
 ·exact .inr ⟨g,cap,cur,h1,Nat.le_trans hb h2,h3⟩
theorem filter_snoc{α:Type}(p:α→Bool)(l:List α)(k:Nat)(hk:k<l.length):(l.take (k+1)).filter p=if p l[k] then (l.take k).filter p++[l[k]] else (l.take k).filter p:=by
 rw[List.take_add_one,List.getElem?_eq_getElem hk,Option.toList_some,List.filter_append]
 cases hp:p l[k]<;>simp[List.filter,hp]
set_option maxRecDepth 20000 in
theorem RemoveR_es(es:List (List Nat×Value))(v:Value)(k:List Nat)(w:World)(hk:k.length=32)(hes:∀e∈es,e.1.length=32∧e.2.oneCell'=true)(hn:es.length≤1000000)(hv:RdEs w v es) :
  Calls Tryz.prog 53 #[v,.agg (kv k)] w fun e w'=>∃v',e=.returned v'∧w'.ownsRow w.heap.size 52 33 v' (es.filter fun e=>decide (e.1≠k)).length ((es.filter fun e=>decide (e.1≠k)).flatMap zFS)∧Below w.heap.size w w':=by
 have HV:=Lib.hid hv;obtain⟨a,c,rfl,_⟩:=hv.form;have HK:=Lib.hid hk;have HE:=Lib.hid hes;have HN:=Lib.hid hn;have hni:((es.length:Nat):Int)≤1000000:=by omega
 clear hv hk hes hn;have st:=St.init w;obtain⟨p,hp⟩:∃p:List Nat×Value→Bool,p=fun e=>decide (e.1≠k):=⟨_,rfl⟩
 have HP:=Lib.hid hp;rw[←hp];clear hp;go_enter Tryz.func53,Tryz.ntmps53;go_upto_region 3 with (first
  |(refine zAD st rfl 37 _ rfl _ rfl ?_;intro b3 w1 st1;clear st))
 go_loopw [5,6] (fun out i wr=>∃j:Nat,j≤es.length∧i=.int .i64 (j:Nat)∧wr.ownsRow w1.heap.size 52 33 out ((es.take j).filter p).length (((es.take j).filter p).flatMap zFS)∧St w.heap.size w [(b3,kv k,37)] wr∧w1.heap.size≤wr.heap.size) (fun _ i _=>((es.length:Int) - intOf i).toNat)
 case atStart=>exact⟨0,Nat.zero_le _,rfl,World.ownsRow_nil _ _ _ _,st1,Nat.le_refl _⟩
 case round =>
  obtain⟨j,hj,rfl,hown,st2,hsz⟩:=hrel;obtain⟨a6,c6,rfl⟩:=zDN hown
  by_cases hlt:j<es.length
  ·have hji:((j:Nat):Int)<(es.length:Nat):=by omega
   obtain⟨b,off,c',hva,_,Hat⟩:=HV.out.at (by intro h;rw[h] at hlt;exact absurd hlt (Nat.not_lt_zero _));obtain⟨rfl,rfl⟩:a=some ⟨b,off,none⟩∧c=c':=by injection hva with h1 h2 h3;exact⟨h1,h3⟩
   obtain⟨hk1,hone⟩:=HE.out es[j] (List.getElem_mem _);have hat:Hid (∀w',Below w.heap.size w w'→CellsAt w' b (off+j*33) (zFS es[j])):=fun w' hb=>Hat.out w' hb j hlt
   have hsn:=filter_snoc p es j hlt;have hpe:p es[j]=decide (es[j].1≠k):=by rw[HP.out]
   have hlen:Hid (((es.take j).filter p).length≤1000000):=by
    have h1:=List.length_filter_le p (es.take j);have h2:=HN.out;unfold Hid;rw[List.length_take] at h1;omega
   generalize es[j]=e at *;have hq:=eqlKey e.1 k hk1 HK.out;have hgk:=zIP;have hkc:Hid (∀w',Below w.heap.size w w'→CellsAt w' b (off+j*33) (zAJ e.1)):=fun w' hb=>by
    have h:=(hat.out w' hb).sub 0 32
    rwa [entc_key e hk1,Nat.add_zero] at h
   have HSn:=Lib.hid hsn;have HPe:=Lib.hid hpe;have HK1:=Lib.hid hk1;have HOne:=Lib.hid hone;clear hsn hpe hva Hat hk1 hone;go_upto_region 5 with (first | (fail "x"))
   refine Inv.wp_region_inv 7 (fun wx=>St w.heap.size w [(b3,kv k,37)] wx∧wx.ownsRow w1.heap.size 52 33 (.slice a6 ((es.take j).filter p).length c6) ((es.take j).filter p).length (((es.take j).filter p).flatMap zFS)∧w1.heap.size≤wx.heap.size) zBL (by kernel_rfl) ⟨st2.drew,zAY hown (Below.refl _ _).drew,hsz⟩ ?_;simp only[List.take_succ_cons,List.take_zero,List.drop_succ_cons,List.drop_zero]
   iterate 4
    (refine Inv.wpInv_step (fun K hK=>?_);go_simp;apply zAL;· (intro wx hw;go_simp;(try go_ints);(try go_simp);(try (rw[if_pos (by omega)]));(try go_simp);(first | done | rfl))
     refine hK _ ?_;clear hK K)
   (refine Inv.wpInv_step (fun K hK=>?_);go_simp;refine zHD 37 _ rfl b (off+j*33) rfl zBN (zAJ e.1) (by rw[zAI,HK1.out];exact zBC) (fun wx hw=>hkc.out wx hw.1.below) ?_;rw[zBK]
    refine hK _ ?_;clear hK K)
   (refine Inv.wpInv_step (fun K hK=>?_);go_simp;refine zDP 37 _ rfl b3 rfl _ zBF rfl _ _ (fun wx hw=>hw.1.at (i:=0) rfl) (zAX HK.out) ?_
    refine hK _ ?_;clear hK K)
   cases hd:decide (e.1=k)
   ·have hpf:Hid (p e=true):=by unfold Hid;rw[HPe.out];simpa using hd
    rw[hd] at hq;rw[hpf.out,if_pos rfl] at HSn;clear hd
    iterate 1
     (refine Inv.wpInv_step (fun K hK=>?_);go_simp;apply zAL;· (intro wx hw;go_simp;(try go_ints);(try go_simp);(try (rw[if_pos (by omega)]));(try go_simp);(first | done | rfl))
      refine hK _ ?_;clear hK K)
    refine Inv.wpInv_nil ?_;rintro w4 ⟨st4,hown4,hsz4⟩;clear st2 hown hsz hq;have HEn:=Lib.hid (zGO e HK1.out);generalize hY:(es.take j).filter p=Y at hown4 HSn hlen ⊢
    go_wp2_with (first
     |((with_reducible refine zBA 52 ?_);refine zBR rfl 52 _ rfl b (off+j*33) rfl aggEnt (zFS e) (by rw[HEn.out];exact zDA) (hat.out _ st4.below) ?_)
     |((with_reducible refine zBP 54 ?_);refine zAR st4 rfl 54 1 _ rfl 52 zDK _ 33 zGX zDA (by decide) (by decide) [(0,.agg (zFS e).toArray)] ?_ _ (fillOne 33 (by rw[List.size_toArray,HEn.out])) ?_;(·first | (simp[Act.eval];done) | (simp[Act.eval,Act.put];done) | rfl);intro b7 w7 st7 hb7;have hown7:=zAY hown4 hb7;have hsz7:=Nat.le_trans hsz4 hb7.size;clear st4 hown4 hsz4)
     |(at_builtin;refine zCL (base:=w1.heap.size) st7.drop (fun q hq=>by rw[List.mem_singleton.1 hq];exact zAG (st1.at (i:=0) rfl)) st1.size rfl _ _ 54 rfl 52 _ 33 56 zDK zGX zDA zHN rfl (by decide) _ Y.length (Y.flatMap zFS) rfl hown7 b7 1 1 (zFS e).toArray 52 rfl (by rw[List.size_toArray,HEn.out]) (st7.at (i:=0) rfl) (entc_one e HOne.out) (by have:=hlen.out;unfold maxLen;omega) (by have:=hlen.out;omega) hsz7 ?_;intro v8 w8 st8 hown8 _ hsz8;clear st7 hown7))
    go_roundw
    case rel =>
     have hown9:w8.ownsRow w1.heap.size 52 33 v8 ((es.take (j+1)).filter p).length (((es.take (j+1)).filter p).flatMap zFS):=by
      rw[HSn.out,List.length_append,List.length_singleton,List.flatMap_append]
      simpa using hown8
     exact⟨j+1,hlt,rfl,hown9,st8,hsz8⟩
    case measure=>simp[intOf];omega
   ·have hpf:Hid (p e=false):=by unfold Hid;rw[HPe.out];simpa using hd
    rw[hd] at hq;rw[hpf.out,if_neg (by simp)] at HSn;clear hd
    iterate 1
     (refine Inv.wpInv_step (fun K hK=>?_);go_simp;apply zAL;· (intro wx hw;go_simp;(try go_ints);(try go_simp);(try (rw[if_pos (by omega)]));(try go_simp);(first | done | rfl))
      refine hK _ ?_;clear hK K)
    refine Inv.wpInv_nil ?_;rintro w4 ⟨st4,hown4,hsz4⟩;clear st2 hown hsz hq;go_wp2;go_roundw
    case rel=>exact⟨j+1,hlt,rfl,by rw[HSn.out];exact hown4,st4,hsz4⟩
    case measure=>simp[intOf];omega
  ·obtain rfl:j=es.length:=by omega
   rw[List.take_length] at hown ⊢;go_wp2;go_ret;exact⟨_,rfl,own_mono hown st1.size,st2.below⟩
set_option maxRecDepth 20000 in
theorem PartR_es(es:List (List Nat×Value))(v:Value)(d bt:Int)(w:World)(hes:∀e∈es,Key e.1∧e.2.oneCell'=true)(hn:es.length≤1000000)(hv:RdEs w v es) :
  Calls Tryz.prog 51 #[v,.int .i64 d,.int .i64 bt] w fun e w'=>∃v',e=.returned v'∧w'.ownsRow w.heap.size 52 33 v' (es.filter fun e=>decide (zDQ e.1 d=bt)).length ((es.filter fun e=>decide (zDQ e.1 d=bt)).flatMap zFS)∧Below w.heap.size w w':=by
 have HV:=Lib.hid hv;obtain⟨a,c,rfl,_⟩:=hv.form;have HE:=Lib.hid hes;have HN:=Lib.hid hn;have hni:((es.length:Nat):Int)≤1000000:=by omega
 clear hv hes hn;have st:=St.init w;obtain⟨p,hp⟩:∃p:List Nat×Value→Bool,p=fun e=>decide (zDQ e.1 d=bt):=⟨_,rfl⟩
 have HP:=Lib.hid hp;rw[←hp];clear hp;go_enter Tryz.func51,Tryz.ntmps51;go_upto_region 3 with (first | (fail "x"))
 go_loopw [7,8] (fun out i wr=>∃j:Nat,j≤es.length∧i=.int .i64 (j:Nat)∧wr.ownsRow w.heap.size 52 33 out ((es.take j).filter p).length (((es.take j).filter p).flatMap zFS)∧St w.heap.size w [] wr) (fun _ i _=>((es.length:Int) - intOf i).toNat)
 case atStart=>exact⟨0,Nat.zero_le _,rfl,World.ownsRow_nil _ _ _ _,st⟩
 case round =>
  obtain⟨j,hj,rfl,hown,st2⟩:=hrel;obtain⟨a6,c6,rfl⟩:=zDN hown
  by_cases hlt:j<es.length
  ·have hji:((j:Nat):Int)<(es.length:Nat):=by omega
   obtain⟨b,off,c',hva,_,Hat⟩:=HV.out.at (by intro h;rw[h] at hlt;exact absurd hlt (Nat.not_lt_zero _));obtain⟨rfl,rfl⟩:a=some ⟨b,off,none⟩∧c=c':=by injection hva with h1 h2 h3;exact⟨h1,h3⟩
   obtain⟨hk1,hone⟩:=HE.out es[j] (List.getElem_mem _);have hat:Hid (∀w',Below w.heap.size w w'→CellsAt w' b (off+j*33) (zFS es[j])):=fun w' hb=>Hat.out w' hb j hlt
   have hsn:=filter_snoc p es j hlt;have hpe:p es[j]=decide (zDQ es[j].1 d=bt):=by rw[HP.out]
   have hlen:Hid (((es.take j).filter p).length≤1000000):=by
    have h1:=List.length_filter_le p (es.take j);have h2:=HN.out;unfold Hid;rw[List.length_take] at h1;omega
   generalize es[j]=e at *;have HBit:=Lib.hid (fun wx=>RefBit_calls e.1 hk1 d wx);have hkc:Hid (∀w',Below w.heap.size w w'→CellsAt w' b (off+j*33) (zAJ e.1)):=fun w' hb=>by
    have h:=(hat.out w' hb).sub 0 32
    rwa [entc_key e hk1.len,Nat.add_zero] at h
   have HSn:=Lib.hid hsn;have HPe:=Lib.hid hpe;have HK1:=Lib.hid hk1;have HOne:=Lib.hid hone;clear hsn hpe hva Hat hk1 hone
   cases hd:decide (zDQ e.1 d=bt)
   ·have hpf:Hid (p e=false):=by unfold Hid;rw[HPe.out,hd]
    have hb:(zDQ e.1 d==bt)=false:=by simpa using hd
    rw[hpf.out,if_neg (by simp)] at HSn;clear hd;generalize zDQ e.1 d=B at *
    go_wp2_with (first
     |((with_reducible refine zBA 37 ?_);refine zBR rfl 37 _ rfl b (off+j*33) rfl zBN (zAJ e.1) (by rw[zAI,HK1.out.len];exact zBC) (hkc.out _ st2.below) ?_;rw[zBK])
     |(go_at_call 92;refine(HBit.out _).mono ?_;rintro ev w4 ⟨rfl,hb4⟩;have st4:=st2.call hb4;have hown4:=zAY hown hb4;clear st2 hown hb4))
    go_roundw
    case rel=>exact⟨j+1,hlt,rfl,by rw[HSn.out];exact hown4,st4⟩
    case measure=>simp[intOf];omega
   ·have hpf:Hid (p e=true):=by unfold Hid;rw[HPe.out,hd]
    have hb:(zDQ e.1 d==bt)=true:=by simpa using hd
    rw[hpf.out,if_pos rfl] at HSn;clear hd;have HEn:=Lib.hid (zGO e HK1.out.len);generalize zDQ e.1 d=B at *;generalize hY:(es.take j).filter p=Y at hown HSn hlen ⊢
    go_wp2_with (first
     |((with_reducible refine zBA 37 ?_);refine zBR rfl 37 _ rfl b (off+j*33) rfl zBN (zAJ e.1) (by rw[zAI,HK1.out.len];exact zBC) (hkc.out _ st2.below) ?_;rw[zBK])
     |(go_at_call 92;refine(HBit.out _).mono ?_;rintro ev w4 ⟨rfl,hb4⟩;have st4:=st2.call hb4;have hown4:=zAY hown hb4;clear st2 hown hb4)
     |((with_reducible refine zBA 52 ?_);refine zBR rfl 52 _ rfl b (off+j*33) rfl aggEnt (zFS e) (by rw[HEn.out];exact zDA) (hat.out _ st4.below) ?_)
     |((with_reducible refine zBP 54 ?_);refine zAR st4 rfl 54 1 _ rfl 52 zDK _ 33 zGX zDA (by decide) (by decide) [(0,.agg (zFS e).toArray)] ?_ _ (fillOne 33 (by rw[List.size_toArray,HEn.out])) ?_;(·first | (simp[Act.eval];done) | (simp[Act.eval,Act.put];done) | rfl);intro b7 w7 st7 hb7;have hown7:=zAY hown4 hb7;clear st4 hown4)
     |(at_builtin;refine zCL (base:=w.heap.size) st7.drop (fun q hq=>(List.not_mem_nil hq).elim) (Nat.le_refl _) rfl _ _ 54 rfl 52 _ 33 56 zDK zGX zDA zHN rfl (by decide) _ Y.length (Y.flatMap zFS) rfl hown7 b7 1 1 (zFS e).toArray 52 rfl (by rw[List.size_toArray,HEn.out]) (st7.at (i:=0) rfl) (entc_one e HOne.out) (by have:=hlen.out;unfold maxLen;omega) (by have:=hlen.out;omega) st7.size ?_;intro v8 w8 st8 hown8 _ hsz8;clear st7 hown7))
    go_roundw
    case rel =>
     have hown9:w8.ownsRow w.heap.size 52 33 v8 ((es.take (j+1)).filter p).length (((es.take (j+1)).filter p).flatMap zFS):=by
      rw[HSn.out,List.length_append,List.length_singleton,List.flatMap_append]
      simpa using hown8
     exact⟨j+1,hlt,rfl,hown9,st8⟩
    case measure=>simp[intOf];omega
  ·obtain rfl:j=es.length:=by omega
   rw[List.take_length] at hown ⊢;go_wp2;go_ret;exact⟨_,rfl,hown,st2.below⟩
end
section
set_option maxHeartbeats 1000000
open Go Go.RowKit
attribute [local irreducible] Inv.wpInv Mix.wpUp
theorem Step5_of(Kb:Nat)(w:World)(r:Bool)(R:World→Prop)(H:Calls Tryz.prog 100 #[.pointer (some ⟨Kb,0,none⟩)] w fun e w'=>e=.returned (.bool r)∧R w') :
  Calls Tryz.prog 99 #[.pointer (some ⟨Kb,0,none⟩)] w fun e w'=>e=.returned (.int .i64 (if r then 0 else 12))∧R w':=by
 have hW:=Lib.hid (fun b c wx=>When_calls b c wx);have H:=Lib.hid H;go_enter Tryz.func99,Tryz.ntmps99
 go_wp2_with (first
  |(go_at_call 100;refine H.out.mono ?_;rintro e w1 ⟨rfl,hR⟩;have HR:=Lib.hid hR;clear hR)
  |(go_at_call 95;refine(hW.out _ _ _).mono ?_;rintro e w2 ⟨rfl,rfl⟩))
 all_goals
  go_ret;exact⟨rfl,HR.out⟩
theorem Step6_of(Kb:Nat)(w:World)(r:Bool)(R:World→Prop)(H:Calls Tryz.prog 102 #[.pointer (some ⟨Kb,0,none⟩)] w fun e w'=>e=.returned (.bool r)∧R w') :
  Calls Tryz.prog 101 #[.pointer (some ⟨Kb,0,none⟩)] w fun e w'=>e=.returned (.int .i64 (if r then 0 else 13))∧R w':=by
 have hW:=Lib.hid (fun b c wx=>When_calls b c wx);have H:=Lib.hid H;go_enter Tryz.func101,Tryz.ntmps101
 go_wp2_with (first
  |(go_at_call 102;refine H.out.mono ?_;rintro e w1 ⟨rfl,hR⟩;have HR:=Lib.hid hR;clear hR)
  |(go_at_call 95;refine(hW.out _ _ _).mono ?_;rintro e w2 ⟨rfl,rfl⟩))
 all_goals
  go_ret;exact⟨rfl,HR.out⟩
def stepFs:Array Value:=#[.func (.func 94) #[] #[],.func (.func 96) #[] #[],.func (.func 97) #[] #[],.func (.func 98) #[] #[],.func (.func 99) #[] #[],.func (.func 101) #[] #[]]
theorem zGM:(Tryz.prog.info? 136).map (·.size)=some 1:=by kernel_rfl
theorem zeroStep:(Tryz.prog.info? 136).bind (·.zero)=some (.agg #[.nilFunc]):=by kernel_rfl
theorem steps_calls(w:World):Calls Tryz.prog 57 #[] w fun e w'=>∃g,e=.returned (.slice (some ⟨g,0,none⟩) 6 6)∧St w.heap.size w [(g,stepFs,136)] w':=by
 have st:=St.init w;go_enter Tryz.func57,Tryz.ntmps57;go_wp2;go_ret;exact⟨_,rfl,st.new _ _⟩
end
section
open Go Go.RowKit
attribute [local irreducible] Inv.wpInv Mix.wpUp
theorem lfOf_len{l:List Nat}(hok:decOk l):(lfOf l).length=64:=by
 unfold lfOf
 split
 ·rename_i h1
  have:=hok.2.2.1 h1;simp;omega
 ·simp
theorem lfOf_lt{l:List Nat}(hb:∀x∈l,x<256):∀x∈lfOf l,x<256:=by
 unfold lfOf;intro x hx
 split at hx
 ·exact hb x (List.mem_of_mem_drop (List.mem_of_mem_take hx))
 ·rw[List.eq_of_mem_replicate hx];decide
theorem bmOf_key{l:List Nat}(hok:decOk l)(hb:∀x∈l,x<256):Key (bmOf l) :=
 ⟨by unfold bmOf;have:=hok.1;simp;omega,fun x hx=>hb x (List.mem_of_mem_drop (List.mem_of_mem_take hx))⟩
theorem restOf_lt{l:List Nat}(hb:∀x∈l,x<256):∀x∈zFP l,x<256:=fun x hx=>hb x (List.mem_of_mem_drop hx)
theorem Decd.call{l:List Nat}{c:Int}{pc:Array Value}{w w':World}(h:Decd l c pc w)(hb:Below w.heap.size w w'):Decd l c pc w':=by
 rcases h with ⟨h0,hok,s,hp,hr⟩ | h
 ·exact .inl ⟨h0,hok,s,hp,hr.call hb⟩
 ·exact .inr h
def Known(c:Int):Prop:=c=0∨c=2∨c=3∨c=4∨c=5∨c=6∨c=7∨c=12∨c=13
def upTo(j:Nat):Int:=if j≤4 then 0 else if j=5 then 1 else 259
structure VGiv (KK:List Int)(ra ka:Option Addr)(rc kc:Nat)(vs bs:Value)(rr kk lv lb:List Nat)(hb cb:Nat)(bits c:Int)(w:World):Prop where
 hh:HasH hb cb bits c w
 hK:HasK KK w
 hB:0≤bits∧bits≤256
 hc : -4611686018427387904≤c∧c≤1000
 hr:RdB w (.slice ra rr.length rc) rr
 hk:RdB w (.slice ka kk.length kc) kk
 hv:RdB w vs lv
 hbs:RdS w bs lb
 kb:∀x∈kk,x<256
 vb:∀x∈lv,x<256
 bb:∀x∈lb,x<256
 rl:rr.length≤1000000
 kl:kk.length≤1000000
 vl:lv.length≤1000000
section
variable {KK:List Int} {ra ka:Option Addr} {rc kc:Nat} {vs bs:Value} {rr kk lv lb:List Nat} {hb cb:Nat} {bits c:Int} {w:World}
def VI(ra ka:Option Addr)(rc kc:Nat)(vs bs:Value)(rr kk lb:List Nat)(hb cb:Nat)(c:Int)(w:World)(p:Bool)(g Kb:Nat)(j:Nat)(wr:World):Prop :=
 ∃c' pc,StH w cb c' [(g,stepFs,136),(Kb,ckR (.pointer (some ⟨hb,0,none⟩)) (.slice ra rr.length rc) (.slice ka kk.length kc) vs p bs pc,131)] wr∧pc.size=99∧c≤c'∧c'≤c+upTo j∧(1≤j→rr.length=32)∧(2≤j→kk.length=32)∧(4≤j→Decd lb 0 pc wr)
theorem VI.call{p:Bool}{g Kb j:Nat}{wr w2:World}(h:VI ra ka rc kc vs bs rr kk lb hb cb c w p g Kb j wr)(hb':Below wr.heap.size wr w2):VI ra ka rc kc vs bs rr kk lb hb cb c w p g Kb j w2:=by
 obtain⟨c',pc,st,h1,h2,h3,h4,h5,h6⟩:=h;exact⟨c',pc,St.call st hb',h1,h2,h3,h4,h5,fun hj=>(h6 hj).call hb'⟩
def GoodV(KK:List Int)(bits:Int)(p:Bool)(rr kk lv lb:List Nat):Prop :=
 rr.length=32∧kk.length=32∧lv.length≤65535∧decOk lb∧supF (kdOf lb) (dpOf lb) (lfOf lb) kk (dgV KK bits lv p) p=true ∧
  belF KK bits (endF (kdOf lb) (lfOf lb)) kk (expF (zBE KK bits [3]) (dpOf lb) (setB (bmOf lb)) (zFP lb)) (dpOf lb) (dpOf lb)=rr
def VAns(ra ka:Option Addr)(rc kc:Nat)(vs bs:Value)(rr kk lb:List Nat)(hb cb:Nat)(c:Int)(w:World)(p:Bool)(g Kb:Nat)(G:Prop)(j:Nat)(e:Ending)(w':World):Prop :=
 ∃x c',e=.returned (.int .i64 x)∧Known x∧c≤c'∧c'≤c+259∧StH w cb c' [] w'∧(x=0→VI ra ka rc kc vs bs rr kk lb hb cb c w p g Kb (j+1) w')∧(G→x=0)
variable (V:VGiv KK ra ka rc kc vs bs rr kk lv lb hb cb bits c w) (p:Bool) (g Kb:Nat)
include V
theorem ans0(wr:World)(h:VI ra ka rc kc vs bs rr kk lb hb cb c w p g Kb 0 wr):Calls Tryz.prog 94 #[.pointer (some ⟨Kb,0,none⟩)] wr (VAns ra ka rc kc vs bs rr kk lb hb cb c w p g Kb (GoodV KK bits p rr kk lv lb) 0):=by
 obtain⟨c',pc,st,h1,h2,h3,h4,h5,h6⟩:=h;refine(Step1_calls _ _ _ _ p pc Kb ra rr.length rc (by have:=V.rl;unfold maxLen;omega) wr (st.at (i:=1) rfl)).mono ?_;rintro e w' ⟨rfl,hw⟩;rw[hw];have hu:c'≤c+259:=by unfold upTo at h3;simp at h3;omega
 refine⟨_,c',rfl,?_,h2,hu,St.few st (by simp) (by simp),fun hx=>⟨c',pc,st,h1,h2,by simpa[upTo] using h3,fun _=>?_,fun hj=>by omega,fun hj=>by omega⟩,fun hG=>if_pos hG.1⟩
 ·split<;>simp[Known]
 ·split at hx
  ·assumption
  ·cases hx
theorem ans1(wr:World)(h:VI ra ka rc kc vs bs rr kk lb hb cb c w p g Kb 1 wr):Calls Tryz.prog 96 #[.pointer (some ⟨Kb,0,none⟩)] wr (VAns ra ka rc kc vs bs rr kk lb hb cb c w p g Kb (GoodV KK bits p rr kk lv lb) 1):=by
 obtain⟨c',pc,st,h1,h2,h3,h4,h5,h6⟩:=h;refine(Step2_calls _ _ _ _ p pc Kb ka kk.length kc (by have:=V.kl;unfold maxLen;omega) wr (st.at (i:=1) rfl)).mono ?_;rintro e w' ⟨rfl,hw⟩;rw[hw];have hu:c'≤c+259:=by unfold upTo at h3;simp at h3;omega
 refine⟨_,c',rfl,?_,h2,hu,St.few st (by simp) (by simp),fun hx=>⟨c',pc,st,h1,h2,by simpa[upTo] using h3,fun _=>h4 (by omega),fun _=>?_,fun hj=>by omega⟩,fun hG=>if_pos hG.2.1⟩
 ·split<;>simp[Known]
 ·split at hx
  ·assumption
  ·cases hx
theorem ans2(wr:World)(h:VI ra ka rc kc vs bs rr kk lb hb cb c w p g Kb 2 wr):Calls Tryz.prog 97 #[.pointer (some ⟨Kb,0,none⟩)] wr (VAns ra ka rc kc vs bs rr kk lb hb cb c w p g Kb (GoodV KK bits p rr kk lv lb) 2):=by
 obtain⟨c',pc,st,h1,h2,h3,h4,h5,h6⟩:=h;obtain⟨va,vc,rfl,_⟩:=V.hv.open;refine(Step3_calls _ _ _ _ p pc Kb va lv.length vc (by have:=V.vl;unfold maxLen;omega) wr (st.at (i:=1) rfl)).mono ?_;rintro e w' ⟨he,hw⟩;rw[hw];have hu:c'≤c+259:=by unfold upTo at h3;simp at h3;omega
 rcases he with rfl | ⟨rfl,hbig⟩
 ·exact⟨_,c',rfl,.inl rfl,h2,hu,St.few st (by simp) (by simp),fun hx=>⟨c',pc,st,h1,h2,by simpa[upTo] using h3,fun _=>h4 (by omega),fun _=>h5 (by omega),fun hj=>by omega⟩,fun _=>rfl⟩
 ·exact⟨_,c',rfl,by simp[Known],h2,hu,St.few st (by simp) (by simp),fun hx=>(by cases hx),fun hG=>by have:=hG.2.2.1;omega⟩
theorem ans3(wr:World)(h:VI ra ka rc kc vs bs rr kk lb hb cb c w p g Kb 3 wr):Calls Tryz.prog 98 #[.pointer (some ⟨Kb,0,none⟩)] wr (VAns ra ka rc kc vs bs rr kk lb hb cb c w p g Kb (GoodV KK bits p rr kk lv lb) 3):=by
 obtain⟨c',pc,st,h1,h2,h3,h4,h5,h6⟩:=h;refine(Step4_calls _ _ _ _ _ p pc Kb lb V.bb h1 wr ⟨StH.rd st V.hh V.hbs.1,V.hbs.2⟩ (st.at (i:=1) rfl)).mono ?_;rintro e w' ⟨x,pc',rfl,h7,h8,h9,h10⟩;have hu:c'≤c+259:=by unfold upTo at h3;simp at h3;omega
 have st':StH w cb c' [(g,stepFs,136),(Kb,ckR (.pointer (some ⟨hb,0,none⟩)) (.slice ra rr.length rc) (.slice ka kk.length kc) vs p bs pc',131)] w':=St.turn (i:=1) st rfl h10 h9 rfl;refine⟨x,c',rfl,?_,h2,hu,St.few st' (by simp) (by simp),fun hx=>⟨c',pc',st',h7,h2,by simpa[upTo] using h3,fun _=>h4 (by omega),fun _=>h5 (by omega),fun _=>hx▸h8⟩,fun hG=>?_⟩
 ·rcases h8 with ⟨h8,_⟩ | ⟨h8,_⟩
  ·exact .inl h8
  ·rcases h8 with h8 | h8 | h8<;>subst h8<;>simp[Known]
 ·rcases h8 with ⟨h8,_⟩ | ⟨_,_,h8⟩
  ·exact h8
  ·exact absurd hG.2.2.2.1 h8
end
end
end Go.Proofs.YtlcngapphloafaaGreatDoor
