import Derived.Laws.ComplexArith
import Derived.Test.YtcgfilmmokmdjaaGreatQAC
import Derived.Test.YtcgfilmmokmdjaaGreatQAA
import Derived.Test.YtcgfilmmokmdjaaGreatQAB
import Derived.Lib.AppendZerosOnto
import Derived.Lib.Overlaps
set_option linter.all false
set_option maxRecDepth 100000
set_option maxHeartbeats 32000000
namespace Go.Proofs.YtcgfilmmokmdjaaGreat.Fx
open Ieee
def fb (n:Int):Nat:=FloatKind.f64.nearest n
def Small (n:Int):Prop:=n.natAbs<2^53
theorem Xj:(2:Nat)^52=4503599627370496:=rfl
theorem LU:(2:Nat)^53=9007199254740992:=rfl
theorem LW:double.infRung=9218868437227405312:=rfl
theorem RI:double.binade=4503599627370496:=rfl
theorem Jd:double.signWeight=9223372036854775808:=rfl
theorem AQ (a k:Nat) (h:0<a):(a*2^k).log2=a.log2+k:=by
 have ha:a≠0:=by omega
 have hp:0<2^k:=Nat.two_pow_pos k;have hm:a*2^k≠0:=Nat.mul_ne_zero ha (by omega);refine Nat.le_antisymm ?_ ?_
 ·
  refine Nat.lt_succ_iff.1 ((Nat.log2_lt hm).2 ?_);rw[show (a.log2+k).succ=(a.log2+1)+k by omega,Nat.pow_add];exact Nat.mul_lt_mul_of_pos_right ((Nat.log2_lt ha).1 (dD _)) hp
 refine (Nat.le_log2 hm).2 ?_;rw[Nat.pow_add];exact aW _ ((Nat.le_log2 ha).1 (ag _))
theorem sO {a:Nat} (h:0<a) (hs:a<2^53):a.log2≤52:=Nat.lt_succ_iff.1 ((Nat.log2_lt (by omega)).2 hs)
theorem full {a:Nat} (h:0<a) (hs:a<2^53):2^52≤a*2^(52-a.log2)∧a*2^(52-a.log2)<2^53:=by
 have hl:=sO h hs;have h1:=(Nat.le_log2 (n:=a) (by omega)).1 (ag _);have h2:=(Nat.log2_lt (n:=a) (by omega)).1 (dD _);have hp:0<2^(52-a.log2):=Nat.two_pow_pos _;refine ⟨?_,?_⟩
 ·
  have:=aW (2^(52-a.log2)) h1
  rwa [← Nat.pow_add,show a.log2+(52-a.log2)=52 by omega] at this
 have:=Nat.mul_lt_mul_of_pos_right h2 hp
 rwa [← Nat.pow_add,show a.log2.succ+(52-a.log2)=53 by omega] at this
theorem mh (way:Toward) (neg:Bool) (b k:Nat) (h:k≤(b*2^k).log2+2∨b=0):way.cut neg (b*2^k) k=b:=by
 unfold Toward.cut;rcases h with h|h
 ·
  rw[bW h,Nat.shiftLeft_eq,Nat.one_mul];have hp:0<2^k:=Nat.two_pow_pos k;simp only[Nat.mul_div_cancel _ hp,Nat.mul_mod_left]
  cases way<;>cases neg<;>simp<;>omega
 subst h;rw[Nat.zero_mul];have hp:0<1 <<< min k (Nat.log2 0+2):=by rw[Nat.shiftLeft_eq,Nat.one_mul];exact Nat.two_pow_pos _
 simp only[Nat.zero_div,Nat.zero_mod]
 cases way<;>cases neg<;>simp<;>omega
def BG (a:Nat):Nat:=(a.log2+1022)*2^52+a*2^(52-a.log2)
theorem lU (neg:Bool) (a k:Nat) (h:0<a) (hs:a<2^53):double.nearest neg (a*2^k) (-(k:Int))=double.word neg (BG a):=by
 have hl:=sO h hs;have hf:=full h hs;have hm:a*2^k≠0:=Nat.mul_ne_zero (by omega) (by have:=Nat.two_pow_pos k;omega);unfold Format.nearest;rw[ai hm];have hlp:double.leastPlace=-1074:=by decide
 have hb:double.binade=2^52:=rfl;have LX:=AQ a k h;have hfr:double.fractionBits=52:=rfl;have LY:max (-(k:Int)+((a*2^k).log2:Int)-(double.fractionBits:Int)) double.leastPlace=(a.log2:Int)-52:=by
  rw[LX,hlp,hfr];omega
 have LZ:Toward.even.cut neg ((a*2^k) <<< (-(k:Int)-((a.log2:Int)-52)).toNat) ((a.log2:Int)-52- -(k:Int)).toNat=a*2^(52-a.log2):=by
  rw[Nat.shiftLeft_eq]
  by_cases hc:k+a.log2≤52
  ·
   have e1:(-(k:Int)-((a.log2:Int)-52)).toNat=52-a.log2-k:=by omega
   have e2:((a.log2:Int)-52- -(k:Int)).toNat=0:=by omega
   rw[e1,e2,Nat.mul_assoc,← Nat.pow_add,show k+(52-a.log2-k)=52-a.log2 by omega];have:=mh .even neg (a*2^(52-a.log2)) 0 (.inl (by omega))
   rwa [Nat.pow_zero,Nat.mul_one] at this
  have e1:(-(k:Int)-((a.log2:Int)-52)).toNat=0:=by omega
  have e2:((a.log2:Int)-52- -(k:Int)).toNat=k-(52-a.log2):=by omega
  rw[e1,e2,Nat.pow_zero,Nat.mul_one];have e3:a*2^k=a*2^(52-a.log2)*2^(k-(52-a.log2)):=by
   rw[Nat.mul_assoc,← Nat.pow_add,show 52-a.log2+(k-(52-a.log2))=k by omega]
  rw[e3];refine mh .even neg _ _ (.inl ?_);rw[← e3,LX];omega
 simp only[LY,LZ];have hr:((a.log2:Int)-52-double.leastPlace).toNat*double.binade+a*2^(52-a.log2)=BG a:=by
  rw[hlp,hb,show ((a.log2:Int)-52- -1074).toNat=a.log2+1022 by omega];rfl
 rw[hr,bW];rw[LW];unfold BG;rw[Xj,LU] at *;omega
theorem L9 (n:Int):fb n=double.nearest (decide (n<0)) n.natAbs 0:=rfl
theorem wr (n:Int) (hs:Small n) (k:Nat):double.nearest (decide (n<0)) (n.natAbs*2^k) (-(k:Int))=fb n:=by
 rw[L9]
 by_cases h0:n=0
 ·
  subst h0;unfold Format.nearest;simp
 have h:=lU (decide (n<0)) n.natAbs k (by omega) hs;have h':=lU (decide (n<0)) n.natAbs 0 (by omega) hs;rw[Nat.pow_zero,Nat.mul_one] at h';rw[h];exact h'.symm
theorem C6 (neg:Bool) (r:Nat) (h1:4503599627370496≤r) (h2:r<9218868437227405312):double.read (double.word neg r)=.number neg (4503599627370496+r%4503599627370496) (-1074+((r/4503599627370496-1:Nat):Int)):=by
 have hlp:double.leastPlace=-1074:=by decide
 have e1:double.word neg r%9223372036854775808=r:=by
  unfold Format.word;rw[Jd]
  cases neg
  ·
   simp only[Bool.false_eq_true,if_false];omega
  simp only[if_true];omega
 have e2:(double.word neg r/9223372036854775808%2==1)=neg:=by
  unfold Format.word;rw[Jd]
  cases neg
  ·
   simp only[Bool.false_eq_true,if_false];rw[beq_eq_false_iff_ne];omega
  simp only[if_true];rw[cE];omega
 unfold Format.read;simp only[Jd,RI,LW,e1,e2,hlp];rw[ai (by omega),ah h2]
theorem rd (n:Int) (hs:Small n):∃ k:Nat,double.read (fb n)=.number (decide (n<0)) (n.natAbs*2^k) (-(k:Int)):=by
 by_cases h0:n=0
 ·
  subst h0;have e:double.read (fb 0)=.number false 0 (-1074):=rfl;obtain ⟨K,hK⟩:∃ K:Nat,K=1074:=⟨_,rfl⟩
  refine ⟨K,?_⟩;rw[e,Int.natAbs_zero,Nat.zero_mul,hK]
  rfl
 have ha:0<n.natAbs:=by omega
 have hl:=sO ha hs;have hf:=full ha hs;have h:=lU (decide (n<0)) n.natAbs 0 ha hs;rw[Nat.pow_zero,Nat.mul_one] at h;have e:fb n=double.word (decide (n<0)) (BG n.natAbs):=h;have hr:BG n.natAbs=(n.natAbs.log2+1022)*4503599627370496+n.natAbs*2^(52-n.natAbs.log2):=rfl;rw[Xj,LU] at hf;have hg:∃ k,k=52-n.natAbs.log2:=⟨_,rfl⟩
 obtain ⟨k,hk⟩:=hg;refine ⟨k,?_⟩;rw[← hk] at hf hr;have hg:∃ q,q=n.natAbs*2^k:=⟨_,rfl⟩
 obtain ⟨q,hq⟩:=hg;rw[← hq] at hf hr ⊢;clear hq h;have e1:4503599627370496+BG n.natAbs%4503599627370496=q:=by rw[hr];omega
 have e2:-1074+((BG n.natAbs/4503599627370496-1:Nat):Int)=-(k:Int):=by rw[hr];omega
 rw[e,C6 _ _ (by rw[hr];omega) (by rw[hr];omega),e1,e2]
theorem mU (n:Int) (k up:Nat):signed (decide (n<0)) (n.natAbs*2^k) up=n*(2^(k+up):Nat):=by
 unfold signed;rw[Nat.shiftLeft_eq,Nat.mul_assoc,← Nat.pow_add]
 by_cases h:n<0
 ·
  rw[ah (by simpa using h),Int.natCast_mul];rw[show ((n.natAbs:Nat):Int)=-n by omega,Int.neg_mul,Int.neg_neg]
 rw[ai (by simpa using h),Int.natCast_mul];rw[show ((n.natAbs:Nat):Int)=n by omega]
theorem Em (a b:Int) (ha:Small a) (hb:Small b) (hab:Small (a+b)):double.add (fb a) (fb b)=some (fb (a+b)):=by
 obtain ⟨k,hk⟩:=rd a ha;obtain ⟨j,hj⟩:=rd b hb;unfold Format.add;rw[hk,hj]
 show Option.map double.write (some _)=_
 rw[dE]
 congr 1
 have Je:min (-(k:Int)) (-(j:Int))=-((max k j:Nat):Int):=by omega
 have e1:(-(k:Int)- -((max k j:Nat):Int)).toNat=max k j-k:=by omega
 have e2:(-(j:Int)- -((max k j:Nat):Int)).toNat=max k j-j:=by omega
 simp only[Je,e1,e2,mU];rw[show k+(max k j-k)=max k j by omega,show j+(max k j-j)=max k j by omega,← Int.add_mul];generalize max k j=M;have hp:0<2^M:=Nat.two_pow_pos M;have hp':(0:Int)<((2^M:Nat):Int):=by omega
 have hn:((a+b)*((2^M:Nat):Int)).natAbs=(a+b).natAbs*2^M:=by rw[Int.natAbs_mul,Int.natAbs_natCast]
 rw[hn];have hsg:(if (a+b)*((2^M:Nat):Int)=0 then decide (a<0)&&decide (b<0) else decide ((a+b)*((2^M:Nat):Int)<0))=decide (a+b<0):=by
  by_cases h0:a+b=0
  ·
   rw[ah (by rw[h0,Int.zero_mul]),h0]
   by_cases h1:a<0
   ·
    simp[h1];omega
   simp[h1]
  rw[ai (Int.mul_ne_zero h0 (by omega))];refine decide_eq_decide.2 ⟨fun h=>?_,fun h=>Int.mul_neg_of_neg_of_pos h hp'⟩
  by_cases h1:a+b<0
  ·
   exact h1
  have:=Int.mul_nonneg (show 0≤a+b by omega) (Int.le_of_lt hp');omega
 rw[hsg];exact wr (a+b) hab M
theorem En (a b:Int) (ha:Small a) (hb:Small b):double.order (fb a) (fb b)=some (compare a b):=by
 obtain ⟨k,hk⟩:=rd a ha;obtain ⟨j,hj⟩:=rd b hb;unfold Format.order;rw[hk,hj];have Je:min (-(k:Int)) (-(j:Int))=-((max k j:Nat):Int):=by omega
 have e1:(-(k:Int)- -((max k j:Nat):Int)).toNat=max k j-k:=by omega
 have e2:(-(j:Int)- -((max k j:Nat):Int)).toNat=max k j-j:=by omega
 show some (compare _ _)=_
 simp only[Je,e1,e2,mU];rw[show k+(max k j-k)=max k j by omega,show j+(max k j-j)=max k j by omega];generalize max k j=M;have hp:0<2^M:=Nat.two_pow_pos M;have hp':(0:Int)<((2^M:Nat):Int):=by omega
 congr 1
 show compareOfLessAndEq _ _=compareOfLessAndEq _ _
 unfold compareOfLessAndEq;have h1:a*((2^M:Nat):Int)<b*((2^M:Nat):Int)↔a<b:=⟨fun h=>Int.lt_of_mul_lt_mul_right h (Int.le_of_lt hp'),fun h=>Int.mul_lt_mul_of_pos_right h hp'⟩
 have h2:a*((2^M:Nat):Int)=b*((2^M:Nat):Int)↔a=b:=⟨fun h=>Int.eq_of_mul_eq_mul_right (by omega) h,fun h=>by rw[h]⟩
 simp only[h1,h2]
theorem Eo (a:Int) (ha:Small a):(double.read (fb a)).toInt .zero=some a:=by
 obtain ⟨k,hk⟩:=rd a ha;rw[hk];unfold Datum.toInt Datum.integral;have e1:(-(k:Int)).toNat=0:=by omega
 have e2:(- -(k:Int)).toNat=k:=by omega
 simp only[e1,e2,Nat.shiftLeft_zero];have hc:Toward.zero.cut (decide (a<0)) (a.natAbs*2^k) k=a.natAbs:=by
  by_cases h0:a.natAbs=0
  ·
   rw[h0];exact mh _ _ 0 k (.inr rfl)
  exact mh _ _ _ k (.inl (by rw[AQ _ _ (by omega)];omega))
 rw[hc];have:=mU a 0 0;rw[Nat.pow_zero,Nat.mul_one] at this;rw[this];simp
end Go.Proofs.YtcgfilmmokmdjaaGreat.Fx
namespace Go.Proofs.YtcgfilmmokmdjaaGreat
open Go.RowKit
theorem uv (key:Int) (w:World):Calls Tryz.prog 94 #[.int .u64 key] w fun e w'=>e=.returned (.int .i64 (zl key:Int))∧w=w':=by
 have h1:IntKind.u64.wrap (key*11400714819323198485)=key*11400714819323198485%18446744073709551616:=by simp[IntKind.wrap,IntKind.signed,IntKind.bits]
 have h2:(zl key:Int)=key*11400714819323198485%18446744073709551616/2305843009213693952:=by unfold zl;omega
 go_enter Tryz.func94,Tryz.ntmps94
 go_wp2_with fail;go_ret;exact ⟨wY h2.symm,rfl⟩
theorem zKP (w:World):Calls Tryz.prog 103 #[] w fun e w'=>e=.returned (yF Sl.nil 0 0)∧Below w.heap.size w w':=by
 go_enter Tryz.func103,Tryz.ntmps103
 go_wp2_with fail;exact au (v:=yF Sl.nil 0 0) (by simp[results,Tryz.results103,go_sem,Sl.nil]) rfl ⟨rfl,(aj _ _).alloc (ag _) _⟩
theorem zLn (z:Int) (w:World):Calls Tryz.prog 53 #[.int .i64 z] w fun e w'=>(∃ n:Nat,e=.returned (.int .i64 (n:Int))∧n≤4127∧(0≤z→n=eN z.toNat))∧w=w':=by
 by_cases hz:0≤z
 ·
  obtain ⟨n,rfl⟩:=dV hz;refine (LS n w).mono ?_;rintro e w' ⟨rfl,rfl⟩;exact ⟨⟨eN n,rfl,xj n,fun _=>by rw[dP]⟩,rfl⟩
 have hd:decide (z<0)=true:=by simp;omega
 have HS:=zh hz;clear hz
 go_enter Tryz.func53,Tryz.ntmps53
 go_wp2_with fail;go_ret;exact ⟨⟨0,rfl,by omega,fun h=>by have:=HS.out;omega⟩,rfl⟩
theorem Xk (x:It) (w:World):Calls Tryz.prog 97 #[lN x] w fun e w'=>(∃ n:Nat,e=.returned (.int .i64 (n:Int))∧n≤4127∧(0≤x.size→n=eN x.size.toNat))∧Below w.heap.size w w':=by
 have HZ:=zh (fun W=>zLn x.size W);obtain ⟨x0,x1,x2,x3⟩:=x;dsimp only at HZ
 go_enter Tryz.func97,Tryz.ntmps97
 go_wp2_with fail;refine (HZ.out _).mono ?_;rintro e w2 ⟨⟨n,rfl,h1,h2⟩,rfl⟩;have H1:=zh h1;have H2:=zh h2;clear h1 h2;go_wp2_with fail;go_ret;exact ⟨⟨n,rfl,H1.out,H2.out⟩,(aj _ _).alloc (ag _) _⟩
theorem uo (s:Sl) (l g:Int) (w:World):Calls Tryz.prog 93 #[yF s l g] w fun e w'=>e=.returned (.complex .f64 (Fx.fb l) (Fx.fb g))∧Below w.heap.size w w':=by
 go_enter Tryz.func93,Tryz.ntmps93
 go_wp2_with fail;go_ret;exact ⟨rfl,(aj _ _).alloc (ag _) _⟩
theorem Xl (n:Nat) (hn:n≤10000) (w:World):Calls Tryz.prog 96 #[.int .i64 (n:Int)] w fun e w'=>e=.returned (.complex .f64 (Fx.fb (-(n:Int))) (Fx.fb n))∧Below w.heap.size w w':=by
 go_enter Tryz.func96,Tryz.ntmps96
 go_wp2_with fail;go_ret;exact ⟨rfl,aj _ _⟩
theorem Xm (a:Int) (ha:Fx.Small a):floatToIntVal .f64 (Fx.fb a) .i64=some a:=by
 have h:a.natAbs<2^53:=ha;rw[Fx.LU] at h;unfold floatToIntVal;have:(FloatKind.f64.decode (Fx.fb a)).toInt .zero=some a:=Fx.Eo a ha;rw[this];simp only[IntKind.min,IntKind.max,IntKind.signed,IntKind.bits];rw[ah];simp;omega
theorem RJ (s:Sl) (l0 g0 l g:Int) (hl:Fx.Small l) (hg:Fx.Small g) (w:World):Calls Tryz.prog 92 #[yF s l0 g0,.complex .f64 (Fx.fb l) (Fx.fb g)] w fun e w'=>e=.returned (yF s l g)∧Below w.heap.size w w':=by
 have h1:=fun W=>run_convert_float_int (P:=Tryz.prog) W 170 2 .f64 .i64 (Fx.fb l) l (by kernel_rfl) Tryz.underlying2 (Xm l hl)
 have h2:=fun W=>run_convert_float_int (P:=Tryz.prog) W 170 2 .f64 .i64 (Fx.fb g) g (by kernel_rfl) Tryz.underlying2 (Xm g hg)
 generalize Fx.fb l=bl at *;generalize Fx.fb g=bg at *
 go_enter Tryz.func92,Tryz.ntmps92
 go_wp2_with fail;exact au (v:=yF s l g) (by simp[results,Tryz.results92,go_sem]) rfl ⟨rfl,((aj _ _).alloc (ag _) _).alloc (by simp) _⟩
theorem Xn (key:Int) (w:World):Calls Tryz.prog 162 #[.int .u64 key] w fun e w'=>e=.returned (.int .i64 (zl key:Int))∧w=w':=by
 have h1:IntKind.u64.wrap (key*11400714819323198485)=key*11400714819323198485%18446744073709551616:=by simp[IntKind.wrap,IntKind.signed,IntKind.bits]
 have h2:(zl key:Int)=key*11400714819323198485%18446744073709551616/2305843009213693952:=by unfold zl;omega
 go_enter Tryz.func162,Tryz.ntmps162
 go_wp2_with fail;go_ret;exact ⟨wY h2.symm,rfl⟩
theorem RM (z:Int) (hz:0≤z) (w:World):Calls Tryz.prog 28 #[.int .i64 z] w fun e w'=>e=.returned (.int .i64 (eN z.toNat:Int))∧w=w':=by
 obtain ⟨n,rfl⟩:=dV hz;rw[dP];exact KQ n w
theorem Xo {T:List It} {n:Nat} (h:n<T.length):zv (T.take (n+1))=zv (T.take n)+eN (ea T n).size.toNat:=by
 rw[xI h,xM];rfl
theorem Xp (v:Value) (l:List It) (w:World) (h:ja w v l) (hp:∀ x∈l,0≤x.size) (hs:l.length≤1000000) :
  Calls Tryz.prog 163 #[v] w fun e w'=>e=.returned (.int .i64 (zv l:Int))∧Below w.heap.size w w':=by
 obtain ⟨a,cap,rfl,_,_⟩:=h.shape;have Hr:=zh h;have HP:=zh (fun j (h:j<l.length)=>hp _ (t8 h));have HS:=zh (fun j (h:j<l.length)=>Xo h);have HE:=zh (show zv (l.take l.length)=zv l by rw[cB])
 have HB:=zh (fun j=>show zv (l.take j)≤4127000000 from by
  have:=tp (l.take j)
  rw[ay] at this
  have:min j l.length*4127≤1000000*4127:=aW _ (by omega)
  omega)
 generalize hn:l.length=n at *;clear h hp hn
 go_enter Tryz.func163,Tryz.ntmps163
 go_wp2_with fail
 go_loopw [3,4] (fun sv iv W=>∃ i p:Nat,iv=.int .i64 (i:Int)∧sv=.int .i64 (p:Int)∧i≤n∧Hid (p=zv (l.take i))∧Hid (Below w.heap.size w W)) (fun _ iv _=>n-(intOf iv).toNat)
 case atStart=>exact ⟨0,0,by rfl,rfl,aq _,zh rfl,zh (aj _ _)⟩
 obtain ⟨i,p,rfl,rfl,hi,Hm,Hb⟩:=hrel
 by_cases hin:i<n
 ·
  obtain ⟨pb,Jf,rfl,c0,c1,c2,c3⟩:=(Hr.out.below Hb.out).at hin;have hS:=HS.out i hin;have hB:=HB.out (i+1);have hZ:=HP.out i hin;generalize ea l i=x at *;obtain ⟨x0,x1,x2,x3⟩:=x;dsimp only at *;have HZ:=zh (fun W=>RM x3 hZ W);generalize eN x3.toNat=z at *;rw[hS,← Hm.out] at hB;have HN:=zh (show p+z=zv (l.take (i+1)) by rw[hS,Hm.out]);have hpz:IntKind.i64.wrap ((p:Int)+(z:Int))=((p+z:Nat):Int):=(aF _ (by omega)).trans (by omega);have i1:(i:Int)<(n:Int):=by omega
  clear hS hZ;go_wp2_with fail;refine (HZ.out _).mono ?_;rintro e w2 ⟨rfl,rfl⟩;go_wp2_with fail;exact ⟨⟨i+1,p+z,by go_num,rfl,by omega,HN,Hb⟩,by simp[intOf];omega⟩
 obtain rfl:i=n:=by omega
 have HF:=zh (Hm.out.trans HE.out);go_wp2_with fail;go_ret;exact ⟨wY (by rw[HF.out]),Hb.out⟩
theorem Xq (s:Sl) {i:Nat} (hi:i<8) (W:World):(Instr.index 34 (.agg (zMf s)) (.int .i64 (i:Int))).run Tryz.prog W=.ok (s.v i) W:=by
 rcases Jc hi with h|h|h|h|h|h|h|h<;>subst h<;>rfl
theorem Xr {M:Mp} {i:Nat} (hi:i<8) (h:Ap M i=false):xC M=false:=by
 unfold xC;have:(List.range 8).all (Ap M)=false:=by
  rw[List.all_eq_false];exact ⟨i,List.mem_range.2 hi,by rw[h];simp⟩
 rw[this];rfl
theorem Xt {M:Mp} (h:∀ i,i<8→Ap M i=true):xC M=((M.live==(zv (vN M):Int))&&decide (0≤M.d_)&&decide (M.d_≤1099511627776)):=by
 unfold xC;have:(List.range 8).all (Ap M)=true:=List.all_eq_true.2 fun i hi=>h i (List.mem_range.1 hi)
 rw[this,bV]
theorem Xu {M:Mp} {i:Nat} (h:wG (M.st i)=false):Ap M i=false:=by unfold Ap;rw[h];rfl
theorem Xv {M:Mp} {i j:Nat} (hj:j<(M.st i).length) (h:zl (ea (M.st i) j).key≠i):Ap M i=false:=by
 unfold Ap;rw[tv hj (by simpa using h),Bool.and_false]
theorem Xw {M:Mp} {i:Nat} (h:wG (M.st i)=true) (h2:∀ j,j<(M.st i).length→zl (ea (M.st i) j).key=i):Ap M i=true:=by
 unfold Ap;rw[h,kF fun j hj=>by simpa using h2 j hj];rfl
theorem qZ {M:Mp} {B:Nat} (h:∀ i,i<8→(M.st i).length≤B):∀ n,n≤8→(cat M.st n).length≤n*B
 |0,_=>by simp[cat]
 |n+1,hn=>by
  have ih:=qZ h n (by omega)
  show (cat M.st n++M.st n).length≤_
  rw[aw,dh];have:=h n (by omega);omega
theorem kP {l:List It} (h:wG l=true):∀ x∈l,0≤x.size:=fun x hx=>((ub.1 h).2 x hx).2.2.2.1
theorem vn (s:Sl) (M:Mp) (w:World) (h:fG w s M.st) (hs:∀ i,i<8→(M.st i).length≤100000) :
  Calls Tryz.prog 87 #[yF s M.live M.d_] w fun e w'=>e=.returned (.bool (xC M))∧Below w.heap.size w w':=by
 have Hr:=zh h;have HV:=zh (fun i (hi:i<8) W (hb:Below w.heap.size w W)=>Wo (s.v i) (M.st i) W ((h i hi).below hb));have HI:=zh (fun i (hi:i<8)=>Xq s hi);have HL:=zh (fun i (hi:i<8)=>h.n hi);have jl:=zh hs;have jq:=zh (fun i (hi:i<8) (h:Ap M i=false)=>Xr hi h);have oT:=zh (fun h=>Xt (M:=M) h)
 have Jg:=zh (fun n (hn:n≤8)=>show zv (cat M.st n)≤3301600000 from by
  have h1:=qZ hs n hn
  have h2:=tp (cat M.st n)
  have:(cat M.st n).length*4127≤(8*100000)*4127:=aW _ (ak h1 (aW _ hn))
  omega)
 have HA:=zh (show vN M=cat M.st 8 from rfl);clear h hs;obtain ⟨f,L,G⟩:=M;dsimp only at *
 go_enter Tryz.func87,Tryz.ntmps87
 go_wp2_with fail;obtain ⟨W0,hW0,eH,HL0,Rj⟩:∃ W0,w.alloc (.cells (yj s L G) 36)=W0∧Hid (Below w.heap.size w W0)∧Hid (W0.cell? ⟨w.heap.size,8,none⟩=some (.int .i64 L))∧Hid (W0.cell? ⟨w.heap.size,9,none⟩=some (.int .i64 G)):=⟨_,rfl,zh ((aj _ _).alloc (ag _) _),zh (by simp),zh (by simp)⟩
 try rw[hW0]
 clear hW0
 go_loopw [3,10] (fun lv iv W=>∃ i p:Nat,iv=.int .i64 (i:Int)∧lv=.int .i64 (p:Int)∧i≤8∧Hid (∀ j,j<i→Ap ⟨f,L,G⟩ j=true)∧Hid (p=zv (cat f i))∧Hid (Below W0.heap.size W0 W)) (fun _ iv _=>8-(intOf iv).toNat)
 case atStart=>exact ⟨0,0,rfl,rfl,aq _,zh (fun j hj=>by omega),zh rfl,zh (aj _ _)⟩
 obtain ⟨i,p,rfl,rfl,hi,mf,Hp,HB⟩:=hrel
 by_cases hin:i<8
 ·
  have i1:(i:Int)<8:=by omega
  have hI:=HI.out i hin;have hL:=HL.out i hin;have k_:=zh (zA eH.out HB.out);have nT:=zh (HV.out i hin wr k_.out);have jF:=zh ((Hr.out i hin).below k_.out);have Aq:s.v i=.slice (s.a i) (s.n i) (s.c i):=rfl;rw[Aq] at nT jF hI;have pK:=jl.out i hin;have hT:=Jg.out (i+1) (by omega);have hcs:cat f (i+1)=cat f i++f i:=rfl;rw[hcs,xM,← Hp.out] at hT;have RN:=zh (show zv (cat f (i+1))=p+zv (f i) by rw[hcs,xM,Hp.out]);rw[hL] at nT jF hI;generalize s.a i=sa at *;generalize s.c i=sc at *;have Jh:=zh (jq.out i hin);have HY:=zh (fun h1 h2=>Xw (M:=⟨f,L,G⟩) (i:=i) h1 h2);have C7:=zh (fun h=>Jh.out (Xu (M:=⟨f,L,G⟩) (i:=i) h));have Co:=zh (fun j h1 h2=>Jh.out (Xv (M:=⟨f,L,G⟩) (i:=i) (j:=j) h1 h2));have jG:=zh (fun j (h:j<(f i).length)=>Xo h)
  have HSe:=zh (show zv ((f i).take (f i).length)=zv (f i) by rw[cB])
  have RO:=zh (fun j=>show zv ((f i).take j)≤zv (f i) from by
   have:zv ((f i).take j++(f i).drop j)=zv (f i):=by rw[b9]
   rw[xM] at this;omega)
  have RP:=zh (fun h=>kP (l:=f i) h);dsimp only at HY C7 Co;generalize f i=l at *;clear hL Aq hcs Jh
  by_cases hv:wG l=true
  ·
   rw[hv] at nT;have RQ:=zh (fun j (h:j<l.length)=>RP.out hv _ (t8 h));generalize hn:l.length=n at *;clear hn;go_wp2_with fail;refine nT.out.mono ?_;rintro e w2 ⟨rfl,hb2⟩;have eM:=zh (zA HB.out hb2);have gN:=zh (jF.out.below hb2);clear hb2 nT k_ HB jF;go_wp2_with fail
   go_loopw [3,19] (fun lv jv W=>∃ j q:Nat,jv=.int .i64 (j:Int)∧lv=.int .i64 ((p+q:Nat):Int)∧j≤n∧Hid (∀ r,r<j→zl (ea l r).key=i)∧Hid (q=zv (l.take j))∧Hid (Below w2.heap.size w2 W)) (fun _ jv _=>n-(intOf jv).toNat)
   case atStart=>exact ⟨0,0,rfl,rfl,aq _,zh (fun j hj=>by omega),zh rfl,zh (aj _ _)⟩
   obtain ⟨j,q,rfl,rfl,hj,L_,Hq,iO⟩:=hrel
   by_cases hjn:j<n
   ·
    obtain ⟨pb,Jf,rfl,c0,c1,c2,c3⟩:=(gN.out.below iO.out).at hjn;have i2:(j:Int)<(n:Int):=by omega
    have RS:=jG.out j hjn;have Xx:=RO.out (j+1);have hpos:=RQ.out j hjn;have BH:=zh (Co.out j hjn)
    have HK:=zh (fun (hk:zl (ea l j).key=i) r (hr:r<j+1)=>show zl (ea l r).key=i from by
     by_cases e:r=j
     ·
      rw[e];exact hk
     exact L_.out r (by omega))
    rw[RS,← Hq.out] at Xx;generalize ea l j=x at *;have jb:=zh (fun W=>Xk x W);have eB:=zh (show Below wr.heap.size wr (wr.alloc (xN x)) from yB wr x);have HS:=zh (fun W=>uv x.key W);generalize hk:zl x.key=k at *;have jR:k<8:=by rw[← hk];exact wX _
    obtain ⟨x0,x1,x2,x3⟩:=x;dsimp only at *;clear hk
    by_cases hki:k=i
    ·
     have g1:((k:Int) != (i:Int))=false:=by rw[bne_eq_false_iff_eq];omega
     have Ef:=zh (HK.out hki);clear hki BH HK;go_wp2_with fail;refine (HS.out _).mono ?_;rintro e w3 ⟨rfl,rfl⟩;go_wp2_with fail;refine (jb.out _).mono ?_;rintro e w4 ⟨⟨z,rfl,hz,hz2⟩,hb4⟩;have hz3:=hz2 hpos;have gD:=zh (zA iO.out (zA eB.out hb4));have HQ:=zh (show q+z=zv (l.take (j+1)) by rw[RS,Hq.out,hz3]);rw[← hz3] at Xx;have hw:IntKind.i64.wrap (((p+q:Nat):Int)+(z:Int))=((p+(q+z):Nat):Int):=(aF _ (by omega)).trans (by omega);rw[di] at hw;clear hb4 hz2 hz3 RS;go_wp2_with fail;exact ⟨⟨j+1,q+z,by go_num,by simp,by omega,Ef,HQ,gD⟩,by simp[intOf];omega⟩
    have g1:((k:Int) != (i:Int))=true:=bne_iff_ne.2 (by omega);have HF:=zh (BH.out hki);have eD:=zh (zA eH.out (zA eM.out (zA iO.out eB.out)));clear hki BH HK;go_wp2_with fail;refine (HS.out _).mono ?_;rintro e w3 ⟨rfl,rfl⟩;go_wp2_with fail;go_ret;exact ⟨zI HF.out.symm,eD.out⟩
   obtain rfl:j=n:=by omega
   have BI:=zh (show ∀ r,r<i+1→Ap ⟨f,L,G⟩ r=true from fun r hr=>by
    by_cases e:r=i
    ·
     rw[e];exact HY.out hv L_.out
    exact mf.out r (by omega))
   have ni:=zh (show p+q=zv (cat f (i+1)) by rw[RN.out,Hq.out,HSe.out]);have eD:=zh (zA eM.out iO.out);go_wp2_with fail;exact ⟨⟨i+1,p+q,by go_num,by simp,by omega,BI,ni,eD⟩,by simp[intOf];omega⟩
  have hv':wG l=false:=by simpa using hv
  have HF:=zh (C7.out hv');rw[hv'] at nT;generalize l.length=n at *;go_wp2_with fail;refine nT.out.mono ?_;rintro e w2 ⟨rfl,hb2⟩;have eM:=zh (zA k_.out hb2);clear hb2;go_wp2_with fail;go_ret;exact ⟨zI HF.out.symm,eM.out⟩
 obtain rfl:i=8:=by omega
 have hall:=oT.out mf.out;rw[HA.out] at hall;rw[← Hp.out] at hall;have HF:=zh hall;have e8:=Below.keeps HB.out _ _ HL0.out;have e9:=Below.keeps HB.out _ _ Rj.out;have eD:=zh (zA eH.out HB.out);clear hall
 by_cases g1:L=(p:Int)
 ·
  have q1:(L==(p:Int))=true:=beq_iff_eq.2 g1;rw[q1] at HF
  by_cases g2:0≤G
  ·
   have q2:decide (0≤G)=true:=by simpa using g2
   rw[q2] at HF;clear g1;go_wp2_with fail;go_ret;exact ⟨zI (by rw[HF.out];simp),eD.out⟩
  have q2:decide (0≤G)=false:=by simpa using g2
  rw[q2] at HF;clear g1;go_wp2_with fail;go_ret;exact ⟨zI (by rw[HF.out];simp),eD.out⟩
 have q1:(L==(p:Int))=false:=beq_eq_false_iff_ne.2 g1;rw[q1] at HF;go_wp2_with fail;go_ret;exact ⟨zI (by rw[HF.out];simp),eD.out⟩
theorem zb (w:World) (s:Sl) (l g:Int) (t:TypeId):Below w.heap.size w (w.alloc (.cells (yj s l g) t)):=(aj _ _).alloc (ag _) _
theorem uC (s:Sl) (M:Mp) (w:World) (h:fG w s M.st) (hs:∀ i,i<8→(M.st i).length≤100000) :
  Calls Tryz.prog 121 #[yF s M.live M.d_] w fun e w'=>e=.returned (.bool (xC M))∧Below w.heap.size w w':=by
 have Hr:=zh h;have HV:=zh (fun i (hi:i<8) W (hb:Below w.heap.size w W)=>zIX (s.v i) (M.st i) W ((h i hi).below hb));have HL:=zh (fun i (hi:i<8)=>h.n hi);have jl:=zh hs;have jq:=zh (fun i (hi:i<8) (h:Ap M i=false)=>Xr hi h);have oT:=zh (fun h=>Xt (M:=M) h)
 have Jg:=zh (fun n (hn:n≤8)=>show zv (cat M.st n)≤3301600000 from by
  have h1:=qZ hs n hn
  have h2:=tp (cat M.st n)
  have:(cat M.st n).length*4127≤(8*100000)*4127:=aW _ (ak h1 (aW _ hn))
  omega)
 have HA:=zh (show vN M=cat M.st 8 from rfl);clear h hs;obtain ⟨f,L,G⟩:=M;dsimp only at *;have eB:=zh (eQ.new w s L G 111);have eH:=zh (zb w s L G 111)
 go_enter Tryz.func121,Tryz.ntmps121
 go_wp2_with fail;obtain ⟨W0,hW0⟩:∃ W0,w.alloc (.cells (yj s L G) 111)=W0:=⟨_,rfl⟩
 rw[hW0] at eB eH
 try rw[hW0]
 clear hW0
 go_loopw [3,4] (fun lv iv W=>∃ i p:Nat,iv=.int .i64 (i:Int)∧lv=.int .i64 (p:Int)∧i≤8∧Hid (∀ j,j<i→Ap ⟨f,L,G⟩ j=true)∧Hid (p=zv (cat f i))∧Hid (Below W0.heap.size W0 W)) (fun _ iv _=>8-(intOf iv).toNat)
 case atStart=>exact ⟨0,0,rfl,rfl,aq _,zh (fun j hj=>by omega),zh rfl,zh (aj _ _)⟩
 obtain ⟨i,p,rfl,rfl,hi,mf,Hp,HB⟩:=hrel;have k_:=zh (show Below w.heap.size w wr from zA eH.out HB.out)
 by_cases hin:i<8
 ·
  have i1:(i:Int)<8:=by omega
  have hL:=HL.out i hin;have nT:=zh (HV.out i hin wr k_.out);have jF:=zh ((Hr.out i hin).below k_.out);have Aq:s.v i=.slice (s.a i) (s.n i) (s.c i):=rfl;have ci:=eB.out.c i hin;rw[Aq] at nT jF ci;have hT:=Jg.out (i+1) (by omega);have hcs:cat f (i+1)=cat f i++f i:=rfl;rw[hcs,xM,← Hp.out] at hT;have RN:=zh (show zv (cat f (i+1))=p+zv (f i) by rw[hcs,xM,Hp.out]);rw[hL] at nT jF ci;generalize s.a i=sa at *;generalize s.c i=sc at *;have Jh:=zh (jq.out i hin);have HY:=zh (fun h1 h2=>Xw (M:=⟨f,L,G⟩) (i:=i) h1 h2);have C7:=zh (fun h=>Jh.out (Xu (M:=⟨f,L,G⟩) (i:=i) h));have Co:=zh (fun j h1 h2=>Jh.out (Xv (M:=⟨f,L,G⟩) (i:=i) (j:=j) h1 h2));have RP:=zh (fun h=>kP (l:=f i) h);have pK:=jl.out i hin;dsimp only at HY C7 Co;have FC:=zh ci;generalize f i=l at *;clear hL Aq hcs Jh ci
  by_cases hv:wG l=true
  ·
   rw[hv] at nT;have nL:=zh (fun a n c W (h:ja W (.slice a n c) l)=>Xp (.slice a n c) l W h (RP.out hv) (by omega));generalize hn:l.length=n at *;clear hn;have c1:=Below.keeps HB.out _ _ FC.out;go_wp2_with fail;refine nT.out.mono ?_;rintro e w2 ⟨rfl,hb2⟩;have eM:=zh (zA HB.out hb2);have gN:=zh (jF.out.below hb2);clear hb2 nT HB jF c1;go_wp2_with fail
   go_loopw [5] (fun jv W=>∃ j:Nat,jv=.int .i64 (j:Int)∧j≤n∧Hid (∀ r,r<j→zl (ea l r).key=i)∧Hid (Below w2.heap.size w2 W)) (fun jv _=>n-(intOf jv).toNat)
   case atStart=>exact ⟨0,rfl,aq _,zh (fun j hj=>by omega),zh (aj _ _)⟩
   obtain ⟨j,rfl,hj,L_,iO⟩:=hrel;have c1:=Below.keeps (zA eM.out iO.out) _ _ FC.out
   by_cases hjn:j<n
   ·
    obtain ⟨pb,Jf,rfl,e0,e1,e2,e3⟩:=(gN.out.below iO.out).at hjn;have i2:(j:Int)<(n:Int):=by omega
    have BH:=zh (Co.out j hjn)
    have HK:=zh (fun (hk:zl (ea l j).key=i) r (hr:r<j+1)=>show zl (ea l r).key=i from by
     by_cases e:r=j
     ·
      rw[e];exact hk
     exact L_.out r (by omega))
    generalize ea l j=x at *;have HS:=zh (fun W=>Xn x.key W);generalize hk:zl x.key=k at *;have jR:k<8:=by rw[← hk];exact wX _
    obtain ⟨x0,x1,x2,x3⟩:=x;dsimp only at *;clear hk
    by_cases hki:k=i
    ·
     have g1:((k:Int) != (i:Int))=false:=by rw[bne_eq_false_iff_eq];omega
     have Ef:=zh (HK.out hki);clear hki BH HK;go_wp2_with fail;refine (HS.out _).mono ?_;rintro e w3 ⟨rfl,rfl⟩;go_wp2_with fail;exact ⟨⟨j+1,by go_num,by omega,Ef,iO⟩,by simp[intOf];omega⟩
    have g1:((k:Int) != (i:Int))=true:=bne_iff_ne.2 (by omega);have HF:=zh (BH.out hki);have eD:=zh (show Below w.heap.size w wr from zA eH.out (zA eM.out iO.out));clear hki BH HK;go_wp2_with fail;refine (HS.out _).mono ?_;rintro e w3 ⟨rfl,rfl⟩;go_wp2_with fail;go_ret;exact ⟨zI HF.out.symm,eD.out⟩
   obtain rfl:j=n:=by omega
   have BI:=zh (show ∀ r,r<i+1→Ap ⟨f,L,G⟩ r=true from fun r hr=>by
    by_cases e:r=i
    ·
     rw[e];exact HY.out hv L_.out
    exact mf.out r (by omega))
   have pM:=zh (nL.out _ _ _ wr (gN.out.below iO.out));generalize zv l=q at *;have hw:IntKind.i64.wrap ((p:Int)+(q:Int))=((p+q:Nat):Int):=(aF _ (by omega)).trans (by omega);go_wp2_with fail;refine pM.out.mono ?_;rintro e w3 ⟨rfl,hb3⟩;have eD:=zh (zA (zA eM.out iO.out) hb3);clear hb3;go_wp2_with fail;exact ⟨⟨i+1,p+q,by go_num,rfl,by omega,BI,zh RN.out.symm,eD⟩,by simp[intOf];omega⟩
  have hv':wG l=false:=by simpa using hv
  have HF:=zh (C7.out hv');rw[hv'] at nT;generalize l.length=n at *;have c1:=Below.keeps HB.out _ _ FC.out;go_wp2_with fail;refine nT.out.mono ?_;rintro e w2 ⟨rfl,hb2⟩;have eM:=zh (zA k_.out hb2);clear hb2;go_wp2_with fail;go_ret;exact ⟨zI HF.out.symm,eM.out⟩
 obtain rfl:i=8:=by omega
 have hall:=oT.out mf.out;rw[HA.out] at hall;rw[← Hp.out] at hall;have HF:=zh hall;have e8:=Below.keeps HB.out _ _ eB.out.cl;have e9:=Below.keeps HB.out _ _ eB.out.cg;have eD:=k_;clear hall
 by_cases g1:L=(p:Int)
 ·
  have q1:(L==(p:Int))=true:=beq_iff_eq.2 g1;rw[q1] at HF
  by_cases g2:0≤G
  ·
   have q2:decide (0≤G)=true:=by simpa using g2
   rw[q2] at HF;clear g1;go_wp2_with fail;go_ret;exact ⟨zI (by rw[HF.out];simp),eD.out⟩
  have q2:decide (0≤G)=false:=by simpa using g2
  rw[q2] at HF;clear g1;go_wp2_with fail;go_ret;exact ⟨zI (by rw[HF.out];simp),eD.out⟩
 have q1:(L==(p:Int))=false:=beq_eq_false_iff_ne.2 g1;rw[q1] at HF;go_wp2_with fail;go_ret;exact ⟨zI (by rw[HF.out];simp),eD.out⟩
end Go.Proofs.YtcgfilmmokmdjaaGreat
namespace Go.Proofs.YtcgfilmmokmdjaaGreat
open Go.RowKit
def yH (W:World) (b:Nat) (s:Sl) (l g:Int):World:=
 (((((((((W.setCell ⟨b,0,none⟩ (.slice (s.a 0) (s.n 0) (s.c 0))).setCell ⟨b,1,none⟩ (.slice (s.a 1) (s.n 1) (s.c 1))).setCell ⟨b,2,none⟩ (.slice (s.a 2) (s.n 2) (s.c 2))).setCell ⟨b,3,none⟩ (.slice (s.a 3) (s.n 3) (s.c 3))).setCell ⟨b,4,none⟩ (.slice (s.a 4) (s.n 4) (s.c 4))).setCell ⟨b,5,none⟩ (.slice (s.a 5) (s.n 5) (s.c 5))).setCell ⟨b,6,none⟩ (.slice (s.a 6) (s.n 6) (s.c 6))).setCell ⟨b,7,none⟩ (.slice (s.a 7) (s.n 7) (s.c 7))).setCell ⟨b,8,none⟩ (.int .i64 l)).setCell ⟨b,9,none⟩ (.int .i64 g)
theorem eQ.all {W:World} {b:Nat} {s:Sl} {l g:Int} (h:eQ W b s l g) (s':Sl) (l' g':Int):eQ (yH W b s' l' g') b s' l' g':=by
 have c0:=h.c 0 (by decide);have c1:=h.c 1 (by decide);have c2:=h.c 2 (by decide);have c3:=h.c 3 (by decide);have c4:=h.c 4 (by decide);have c5:=h.c 5 (by decide);have c6:=h.c 6 (by decide);have c7:=h.c 7 (by decide);have c8:=h.cl;have c9:=h.cg;refine ⟨fun j hj=>?_,?_,?_,fun i=>by simp[yH,h.f]⟩
 ·
  rcases Jc hj with e|e|e|e|e|e|e|e<;>subst e<;>simp[yH,go_sem,c0,c1,c2,c3,c4,c5,c6,c7,Sl.v]
 ·
  simp[yH,go_sem,c8]
 simp[yH,go_sem,c9]
theorem za {B b:Nat} {w0 W:World} (h:Below B w0 W) (hb:B≤b) (s:Sl) (l g:Int):Below B w0 (yH W b s l g):=
 (((((((((h.setCell hb _).setCell hb _).setCell hb _).setCell hb _).setCell hb _).setCell hb _).setCell hb _).setCell hb _).setCell hb _).setCell hb _
theorem eQ.eA {W:World} {b:Nat} {s:Sl} {l g:Int} (h:eQ W b s l g) {p:Addr} (hp:p.block≠b) (u:Value):eQ (W.setCell p u) b s l g:=by
 have ne:∀ i,p≠⟨b,i,none⟩:=fun i e=>hp (by rw[e])
 exact ⟨fun j hj=>(cz (h:=ne j) ..).trans (h.c j hj),(cz (h:=ne 8) ..).trans h.cl,(cz (h:=ne 9) ..).trans h.cg,fun i=>by simp[h.f]⟩
theorem eQ.nt {W:World} {b c:Nat} {s:Sl} {l g:Int} (h:eQ W b s l g) (hp:c≠b) (s':Sl) (l' g':Int):eQ (yH W c s' l' g') b s l g:=
 (((((((((h.eA (p:=⟨c,0,none⟩) hp _).eA (p:=⟨c,1,none⟩) hp _).eA (p:=⟨c,2,none⟩) hp _).eA (p:=⟨c,3,none⟩) hp _).eA (p:=⟨c,4,none⟩) hp _).eA (p:=⟨c,5,none⟩) hp _).eA (p:=⟨c,6,none⟩) hp _).eA (p:=⟨c,7,none⟩) hp _).eA (p:=⟨c,8,none⟩) hp _).eA (p:=⟨c,9,none⟩) hp _
theorem yE {W:World} {B:Nat} {e:TypeId} {sz n:Nat} {v:Value} {xs:List Value} (h:W.ownsRow B e sz v n xs) {p:Addr} (hp:p.block<B) (u:Value):(W.setCell p u).ownsRow B e sz v n xs:=
 zEr h (fun e=>by have:=(World.ownsRow.lt h _ e).1;omega) u
theorem Xy {W:World} {B b:Nat} {e:TypeId} {sz n:Nat} {v:Value} {xs:List Value} (h:W.ownsRow B e sz v n xs) (hp:b<B) (s:Sl) (l g:Int):(yH W b s l g).ownsRow B e sz v n xs:=
 yE (p:=⟨b,9,none⟩) (yE (p:=⟨b,8,none⟩) (yE (p:=⟨b,7,none⟩) (yE (p:=⟨b,6,none⟩) (yE (p:=⟨b,5,none⟩) (yE (p:=⟨b,4,none⟩) (yE (p:=⟨b,3,none⟩) (yE (p:=⟨b,2,none⟩) (yE (p:=⟨b,1,none⟩) (yE (p:=⟨b,0,none⟩) h hp _) hp _) hp _) hp _) hp _) hp _) hp _) hp _) hp _) hp _
def eZ (w:World) (B:Nat) (s:Sl) (f:Nat→List It):Prop:=∀ i,i<8→fC w B (s.v i) (f i)
theorem eZ.rd {w:World} {B:Nat} {s:Sl} {f:Nat→List It} (h:eZ w B s f):fG w s f:=fun i hi=>(h i hi).rd
theorem eZ.keep {w w':World} {B:Nat} {s:Sl} {f:Nat→List It} (h:eZ w B s f) (hb:Below w.heap.size w w'):eZ w' B s f:=fun i hi=>zG (h i hi) hb
theorem eZ.mono {w:World} {B B':Nat} {s:Sl} {f:Nat→List It} (h:eZ w B s f) (hb:B'≤B):eZ w B' s f:=fun i hi=>World.ownsRow.mono (h i hi) hb
theorem eZ.lV {w:World} {B b:Nat} {s:Sl} {f:Nat→List It} (h:eZ w B s f) (hb:b<B) (s':Sl) (l g:Int):eZ (yH w b s' l g) B s f:=fun i hi=>Xy (h i hi) hb s' l g
theorem eZ.nil (w:World) (B:Nat):eZ w B Sl.nil (fun _=>[]):=fun _ _=>aT _ _ _ _
theorem eZ.set {w:World} {B:Nat} {s:Sl} {f:Nat→List It} (h:eZ w B s f) {k:Nat} {a:Option Addr} {n c:Nat} {l:List It} (hl:fC w B (.slice a n c) l):eZ w B (s.set k a n c) (fun i=>if i=k then l else f i):=fun i hi=>by
 show fC w B ((s.set k a n c).v i) (if i=k then l else f i)
 rw[Sl.pJ]
 by_cases e:i=k
 ·
  rw[ah e,ah e];exact hl
 rw[ai e,ai e];exact h i hi
section
variable {W:World} {b:Nat} {s:Sl} {l g:Int} (h:eQ W b s l g)
include h
theorem eQ.c0:W.cell? ⟨b,0,none⟩=some (.slice (s.a 0) (s.n 0) (s.c 0)):=h.c 0 (by decide)
theorem eQ.c1:W.cell? ⟨b,1,none⟩=some (.slice (s.a 1) (s.n 1) (s.c 1)):=h.c 1 (by decide)
theorem eQ.c2:W.cell? ⟨b,2,none⟩=some (.slice (s.a 2) (s.n 2) (s.c 2)):=h.c 2 (by decide)
theorem eQ.c3:W.cell? ⟨b,3,none⟩=some (.slice (s.a 3) (s.n 3) (s.c 3)):=h.c 3 (by decide)
theorem eQ.c4:W.cell? ⟨b,4,none⟩=some (.slice (s.a 4) (s.n 4) (s.c 4)):=h.c 4 (by decide)
theorem eQ.c5:W.cell? ⟨b,5,none⟩=some (.slice (s.a 5) (s.n 5) (s.c 5)):=h.c 5 (by decide)
theorem eQ.c6:W.cell? ⟨b,6,none⟩=some (.slice (s.a 6) (s.n 6) (s.c 6)):=h.c 6 (by decide)
theorem eQ.c7:W.cell? ⟨b,7,none⟩=some (.slice (s.a 7) (s.n 7) (s.c 7)):=h.c 7 (by decide)
end
theorem qw (s:Sl) (L G:Int) (f:Nat→List It) (w:World) (h:fG w s f) (hs:∀ i,i<8→(f i).length≤100000) :
  Calls Tryz.prog 91 #[yF s L G] w fun e w'=>(∃ s',e=.returned (yF s' L G)∧eZ w' w.heap.size s' f)∧Below w.heap.size w w':=by
 have Hr:=zh h;have HC:=zh (fun i (hi:i<8) W (hb:Below w.heap.size w W)=>Rf (s.v i) (f i) W ((h i hi).below hb) (ak (hs i hi) (by decide)));have HI:=zh (fun i (hi:i<8)=>Xq s hi);have HL:=zh (fun i (hi:i<8)=>h.n hi);clear h hs;have eB:=zh ((eQ.new w s L G 36).below (zb (w.alloc (.cells (yj s L G) 36)) Sl.nil 0 0 36));have pM:=zh (eQ.new (w.alloc (.cells (yj s L G) 36)) Sl.nil 0 0 36);have eH:=zh (zA (zb w s L G 36) (zb (w.alloc (.cells (yj s L G) 36)) Sl.nil 0 0 36));rw[show (w.alloc (.cells (yj s L G) 36)).heap.size=w.heap.size+1 by simp] at pM
 go_enter Tryz.func91,Tryz.ntmps91
 go_wp2_with fail;obtain ⟨W0,hW0⟩:∃ W0,(w.alloc (.cells (yj s L G) 36)).alloc (.cells #[.slice none 0 0,.slice none 0 0,.slice none 0 0,.slice none 0 0,.slice none 0 0,.slice none 0 0,.slice none 0 0,.slice none 0 0,.int .i64 0,.int .i64 0] 36)=W0:=⟨_,rfl⟩
 have hW1:(w.alloc (.cells (yj s L G) 36)).alloc (.cells (yj Sl.nil 0 0) 36)=W0:=hW0;rw[hW1] at eB pM eH
 try rw[hW0]
 clear hW0 hW1;have hs0:w.heap.size+2≤W0.heap.size:=pM.out.lt;have Gf:=zh hs0;clear hs0
 go_loopw [7] (fun iv W=>∃ (i:Nat) (q:Sl),iv=.int .i64 (i:Int)∧i≤8∧Hid (∀ j,j<i→W.ownsRow (w.heap.size+2) 49 4 (q.v j) (f j).length (zU (f j)))∧Hid (∀ j,i≤j→q.v j=s.v j)∧Hid (eQ W w.heap.size q L G)∧Hid (eQ W (w.heap.size+1) Sl.nil 0 0)∧Hid (Below w.heap.size w W)) (fun iv _=>8-(intOf iv).toNat)
 case atStart=>exact ⟨0,s,rfl,aq _,zh (fun j hj=>by omega),zh (fun j _=>rfl),eB,pM,eH⟩
 obtain ⟨i,q,rfl,hi,Xz,Hq2,HX,HY,HB⟩:=hrel
 by_cases hin:i<8
 ·
  have i1:(i:Int)<8:=by omega
  have hI:=HI.out i hin;have hL:=HL.out i hin;have FC:=zh (HC.out i hin wr HB.out);have Aq:s.v i=.slice (s.a i) (s.n i) (s.c i):=rfl;rw[Aq] at FC hI;rw[hL] at FC hI;generalize s.a i=sa at *;generalize s.c i=sc at *;clear Aq hL;go_wp2_with fail;refine FC.out.mono ?_;rintro e w2 ⟨v2,rfl,eG,hb2⟩;have eM:=zh (zA HB.out hb2);have fW:=zh (HX.out.below hb2);have ig:=zh (HY.out.below hb2);have iA:=zh (fun j hj=>zG (Xz.out j hj) hb2);have Gg:w.heap.size+2≤wr.heap.size:=HY.out.lt;have gC:=zh (eG.mono Gg);obtain ⟨oa,oc,sP,_⟩:=zH eG;subst sP;clear eG hb2 Gg FC;have ci:=fW.out.c i hin;have fi:=fW.out.f i;have hqi:q.v i=.slice (q.a i) (q.n i) (q.c i):=rfl;rw[hqi] at ci;clear hqi;go_wp2_with fail;have iw:=zh (fW.out.Ge hin oa (f i).length oc)
  have nu:=zh (ig.out.eA (p:=⟨w.heap.size,i,none⟩) (show w.heap.size≠w.heap.size+1 by omega) (.slice oa (f i).length oc));have gy:=zh (eM.out.setCell (p:=⟨w.heap.size,i,none⟩) (ag _) (.slice oa (f i).length oc));refine ⟨⟨i+1,q.set i oa (f i).length oc,by go_num,by omega,zh (fun j hj=>?_),zh (fun j hj=>?_),iw,nu,gy⟩,by simp[intOf];omega⟩
  ·
   rw[Sl.pJ]
   by_cases e:j=i
   ·
    subst e;rw[ah rfl];exact yE gC.out (show w.heap.size<w.heap.size+2 by omega) _
   rw[ai e];exact yE (iA.out j (by omega)) (show w.heap.size<w.heap.size+2 by omega) _
  rw[Sl.pJ,ai (by omega)];exact Hq2.out j (by omega)
 obtain rfl:i=8:=by omega
 obtain ⟨c0,c1,c2,c3,c4,c5,c6,c7,c8,c9⟩:=HX.out.q;obtain ⟨d0,d1,d2,d3,d4,d5,d6,d7,d8,d9⟩:=HY.out.q;have F:=HY.out.f;go_wp2_with fail;change bodyPost _ _ _ _ _ (yH wr (w.heap.size+1) q L G);have hby:=HY.out.all q L G;have nw:=zh (show eZ (yH wr (w.heap.size+1) q L G) w.heap.size q f from fun j hj=>World.ownsRow.mono (Xy (Xz.out j hj) (show w.heap.size+1<w.heap.size+2 by omega) q L G) (by omega));have eD:=zh (za HB.out (Nat.le_succ _) q L G);generalize yH wr (w.heap.size+1) q L G=V at *;exact au (v:=yF q L G) (by simp[results,Tryz.results91,go_sem,hby.q]) rfl ⟨⟨q,rfl,nw.out⟩,eD.out⟩
end Go.Proofs.YtcgfilmmokmdjaaGreat
namespace Go.Proofs.YtcgfilmmokmdjaaGreat
open Go.RowKit
theorem kM {P:Program} {dT sT elem:TypeId} {sz bytes:Nat} (hE:xt P dT elem sz bytes) {w:World} {base:Nat} {e:TypeId} {n cap g:Nat} {xs:List Value} (h:w.ownsRow base e sz (.slice (some ⟨g,0,none⟩) n cap) n xs)
  {sa:Option Addr} {m sc:Nat} {news:List Value} (hs:Rd w sz (.slice sa m sc) m news) (o dl dc k:Nat) (hk:k=Nat.min m dl) (h0:0<k) (hsz:0<sz) (ho:o+k≤n) (h1:∀ u∈news.take (k*sz),u.oneCell'=true) :
  ∃ w',(∀ ty,(Builtin.copy_ #[dT,sT] ty #[.slice (some ⟨g,o*sz,none⟩) dl dc,.slice sa m sc]).run P w=.ok (.int .i64 (k:Int)) w') ∧
   w'.ownsRow base e sz (.slice (some ⟨g,0,none⟩) n cap) n (xs.take (o*sz)++news.take (k*sz)++xs.drop (o*sz+k*sz))∧w.grownBy w' (some g):=by
 obtain ⟨hl,a',cap',e1,_,_,_,hc⟩:=hs;injection e1 with e1 e2 e3;subst e1 e3;have F8:k≤m:=by rw[hk];exact Nat.min_le_left _ _
 have hlk:(news.take (k*sz)).length=k*sz:=by rw[ay,hl];exact bW (aW _ F8)
 have hp:0<news.length:=by rw[hl];exact Nat.mul_pos (by omega) hsz
 obtain ⟨b,off,e4,hcell⟩:=hc hp;subst e4;obtain ⟨w',hrun,hown,hgr⟩:=tl (P:=P) h (o*sz) (news.take (k*sz)) (by rw[hlk,← cq];exact aW _ ho) h1;rw[hlk] at hown;refine ⟨w',fun ty=>?_,hown,hgr⟩
 have hf:=run_firstCells_some (P:=P) (w:=w) sz k ⟨b,off,none⟩ m sc (news.take (k*sz)) hlk (fun j v hj=>by
  rw[yM]
  refine hcell j v ?_
  rw[cH] at hj
  split at hj
  ·
   exact hj
  cases hj)
 obtain ⟨ht,hZ⟩:=wh hE;simp[Builtin.copy_,run_underlying ht,Builtin.lenOf,hZ,← hk,hf,hrun,goInt]
theorem XA {w:World} {base:Nat} {e:TypeId} {sz n cap g:Nat} {xs:List Value} (h:w.ownsRow base e sz (.slice (some ⟨g,0,none⟩) n cap) n xs) (k:Nat) (hk:n+k≤cap) :
  ∃ ys,ys.length=k*sz∧w.ownsRow base e sz (.slice (some ⟨g,0,none⟩) (n+k) cap) (n+k) (xs++ys):=by
 have hx:=h.1;rcases h.2 with ⟨h',_⟩|⟨g',cap',cur,h',hb,hg,hnc,hcm,hcs,jP⟩
 ·
  cases h'
 injection h' with h' _ h'';injection h' with h';injection h' with h' _;subst h' h'';have hN:(n+k)*sz≤cur.toList.length:=by rw[dM,hcs];exact aW _ hk
 rw[cq] at hN;refine ⟨(cur.toList.drop (n*sz)).take (k*sz),by rw[ay,aP];omega,?_,.inr ⟨g,cap,cur,rfl,hb,hg,hk,hcm,hcs,?_⟩⟩
 ·
  rw[aw,hx,ay,aP,cq];omega
 rw[cq,List.take_add,jP]
theorem tw {P:Program} {t e:TypeId} {sz bytes:Nat} (hE:xt P t e sz bytes) (g n cap k:Nat) (hk:k≤n) (hc:k<cap) :
  ∀ W kl,(Instr.slice t (.slice (some ⟨g,0,none⟩) n cap) (some (.int kl (k:Int))) none none).run P W=.ok (.slice (some ⟨g,k*sz,none⟩) (n-k) (cap-k)) W:=by
 obtain ⟨h1,h2⟩:=wh hE;intro W kl;rw[run_slice_l W t (some ⟨g,0,none⟩) n cap h1 kl (k:Int) (by omega) (by omega),h2];have:cap≠k:=by omega
 simp[Result.andThen,sliced,this,yM]
theorem zHJ {w:World} {B:Nat} {a:Option Addr} {n cap:Nat} {xs:List Value} (h:w.ownsRow B 49 4 (.slice a n cap) n xs) (i k:Nat) (hi:i≤n) (h0:0<n) (hk:cap<i+k) (hs:i+k≤1000001) :
  ∃ w' c',(∀ ty,(Builtin.append_ #[33,3] ty #[.slice a i cap,.int .i64 (k:Int)]).run Tryz.prog w=.ok (.slice (some ⟨w.heap.size,0,none⟩) (i+k) c') w') ∧
   w'.ownsRow w.heap.size 49 4 (.slice (some ⟨w.heap.size,0,none⟩) (i+k) c') (i+k) (xs.take (i*4)++zU (List.replicate k fE))∧Below w.heap.size w w'∧c'≤maxLen:=by
 obtain ⟨x,hx⟩:∃ x,Tryz.prog.info? 49=some x:=by
  cases hq:Tryz.prog.info? 49 with
  |none=>have:=I3;rw[hq] at this;cases this
  |some x=>exact ⟨x,rfl⟩
 have hI:=I3;rw[hx] at hI;injection hI with hI;injection hI with hz hI;injection hI with hs4 BJ;have hz:x.zero=some (lN fE):=hz;have hcap:0<cap:=by
  rcases h.2 with ⟨e,_⟩|⟨g,c,_,e,_,_,hnc,_⟩
  ·
   injection e with _ e2 _;omega
  injection e with _ _ e3;omega
 obtain ⟨hl0,a',cap',e1,_,_,_,hc⟩:=zk h;injection e1 with e1 e2 e3;subst e1 e3;have hl:(xs.take (i*4)).length=i*4:=by rw[ay,hl0];exact bW (aW _ hi)
 have hold:(Builtin.firstCells x.size i (.slice a i cap)).run Tryz.prog w.drew=.ok (xs.take (i*4)).toArray w.drew:=by
  obtain ⟨b,off,e4,hcell⟩:=hc (by rw[hl0];omega);subst e4;rw[hs4];refine run_firstCells_some (P:=Tryz.prog) (w:=w.drew) 4 i ⟨b,off,none⟩ i cap _ hl (fun j v hj=>?_);rw[yM];refine hcell j v ?_;rw[cH] at hj
  split at hj
  ·
   exact hj
  cases hj
 have hnb:Builtin.nextslicecap (i+k) cap*x.bytes≤281474976710656:=growslice_fits hk (by rw[BJ];omega);have hr:∀ ty,_:=fun ty=>Lib.run_append_grow_zeros (P:=Tryz.prog) w 33 3 ty 49 x (lN fE) .i64 .i64 Tryz.underlying33 Tryz.underlying3 hx hz a i cap (xs.take (i*4)) hold k (by omega) (by rw[hs4];decide) hk (by omega) (by rw[BJ];omega) hnb
 refine ⟨_,_,hr,?_,(Below.drew (aj _ _)).alloc (ag _) _,grownCap_le_maxLen w (i+k) cap _ (by unfold maxLen;omega)⟩;have hge:=grownCap_ge w (i+k) cap 49;have hcm:grownCap w (i+k) cap 49≤maxLen:=grownCap_le_maxLen w (i+k) cap _ (by unfold maxLen;omega);have hzl:(zU (List.replicate k fE)).length=k*4:=by rw[zy,dA]
 have hlen:(xs.take (i*4)++zU (List.replicate k fE)).length=(i+k)*4:=by rw[aw,hl,hzl,cq]
 refine ⟨hlen,.inr ⟨w.heap.size,_,_,rfl,ag _,dg w.drew _,hge,hcm,?_,?_⟩⟩
 ·
  have z4:(lN fE).cells.size=4:=rfl;simp only[Array.size_append,cu,size_zeroCells,z4,hl,← cq];rw[show i+k+(grownCap w (i+k) cap 49-(i+k))=grownCap w (i+k) cap 49 from by omega]
 simp only[Array.toList_append];rw[uG,← hlen];exact List.take_left
theorem zIB {xs z c:List Value} {n i:Nat} (hi:i≤n) (hx:xs.length=n*4) (hz:z.length=(n+1-i)*4) (hc:c.length=4) :
  ((xs.take (i*4)++z).take (i*4)++c++(xs.take (i*4)++z).drop (i*4+4)).take ((i+1)*4)++xs.drop (i*4)++((xs.take (i*4)++z).take (i*4)++c++(xs.take (i*4)++z).drop (i*4+4)).drop ((i+1)*4+(n-i)*4)=xs.take (i*4)++c++xs.drop (i*4):=by
 have hl:(xs.take (i*4)).length=i*4:=by rw[ay,hx];omega
 have e1:(xs.take (i*4)++z).take (i*4)=xs.take (i*4):=cL hl;have e2:(xs.take (i*4)++z).drop (i*4+4)=z.drop 4:=by rw[← cn,List.drop_left' hl]
 have l2:(xs.take (i*4)++c).length=(i+1)*4:=by rw[aw,hl,hc];omega
 have e3:(xs.take (i*4)++c++z.drop 4).drop ((i+1)*4+(n-i)*4)=[]:=bY (by rw[aw,l2,aP,hz];omega);rw[e1,e2,cL l2,e3,bZ]
theorem zHU {xs ys c:List Value} {n i:Nat} (hi:i≤n) (hx:xs.length=n*4) (hy:ys.length=4) :
  ((xs++ys).take ((i+1)*4)++((xs++ys).drop (i*4)).take ((n-i)*4)++(xs++ys).drop ((i+1)*4+(n-i)*4)).take (i*4)++c++((xs++ys).take ((i+1)*4)++((xs++ys).drop (i*4)).take ((n-i)*4)++(xs++ys).drop ((i+1)*4+(n-i)*4)).drop (i*4+4)=xs.take (i*4)++c++xs.drop (i*4):=by
 have ld:(xs.drop (i*4)).length=(n-i)*4:=by rw[aP,hx];omega
 have e1:((xs++ys).drop (i*4)).take ((n-i)*4)=xs.drop (i*4):=by
  rw[List.drop_append_of_le_length (by omega),cL ld]
 have e2:(xs++ys).drop ((i+1)*4+(n-i)*4)=[]:=bY (by rw[aw,hx,hy];omega);have l3:((xs++ys).take ((i+1)*4)).length=(i+1)*4:=by rw[ay,aw,hx,hy];omega
 rw[e1,e2,bZ];have e3:((xs++ys).take ((i+1)*4)++xs.drop (i*4)).take (i*4)=xs.take (i*4):=by
  rw[dU (by omega),dw,bW (by omega),dU (by omega)]
 have e4:((xs++ys).take ((i+1)*4)++xs.drop (i*4)).drop (i*4+4)=xs.drop (i*4):=List.drop_left' (by rw[l3];omega);rw[e3,e4]
theorem zHs {w:World} {B g n cap:Nat} {xs:List Value} (h:w.ownsRow B 49 4 (.slice (some ⟨g,0,none⟩) n cap) n xs) (i:Nat) (hi:i<n) :
  ∃ w',(∀ ty c,(Builtin.clear_ #[33] ty #[.slice (some ⟨g,i*4,none⟩) (n-i) c]).run Tryz.prog w=.ok (.tuple #[]) w')∧w'.ownsRow B 49 4 (.slice (some ⟨g,0,none⟩) n cap) n (xs.take (i*4)++zU (List.replicate (n-i) fE))∧w.grownBy w' (some g):=by
 have hl:xs.length=n*4:=h.1;obtain ⟨w',h1,h2,h3⟩:=tl (P:=Tryz.prog) h (i*4) (zU (List.replicate (n-i) fE)) (by rw[zy,dA];omega) (zq _);refine ⟨w',fun ty c=>?_,?_,h3⟩
 ·
  obtain ⟨m,hm⟩:∃ m,n-i=m+1:=⟨n-i-1,by omega⟩
  rw[hm] at h1 ⊢;simp only[Builtin.clear_];simp[run_underlying Tryz.underlying33];have hz:=uG (m+1);simp only[lN,fE] at hz;rw[hz,show zU (List.replicate (m+1) ⟨0,0,0,0⟩)=zU (List.replicate (m+1) fE) from rfl,h1]
  rfl
 rw[bY (by rw[zy,dA];omega),bZ] at h2;exact h2
theorem zIN {w:World} {B g n cap:Nat} {xs:List Value} (h:w.ownsRow B 49 4 (.slice (some ⟨g,0,none⟩) n cap) n xs) {sa:Addr} {m sc:Nat} {news:List Value} (hs:Rd w 4 (.slice (some sa) m sc) m news) (h1:∀ u∈news,u.oneCell'=true) (hr:n+m≤cap) :
  ∃ w',(∀ ty,(Builtin.append_ #[33,33] ty #[.slice (some ⟨g,0,none⟩) n cap,.slice (some sa) m sc]).run Tryz.prog w=.ok (.slice (some ⟨g,0,none⟩) (n+m) cap) w')∧w'.ownsRow B 49 4 (.slice (some ⟨g,0,none⟩) (n+m) cap) (n+m) (xs++news)∧w.grownBy w' (some g):=by
 obtain ⟨x,hx⟩:∃ x,Tryz.prog.info? 49=some x:=by
  cases hq:Tryz.prog.info? 49 with
  |none=>have:=I3;rw[hq] at this;cases this
  |some x=>exact ⟨x,rfl⟩
 have hI:=I3;rw[hx] at hI;injection hI with hI;injection hI with _ hI;injection hI with hs4 _;have hs4:x.size=4:=hs4;obtain ⟨hl,a',cap',e1,_,_,_,hc⟩:=hs;injection e1 with e1 e2 e3;subst e3;have hnews:∀ j u,news[j]?=some u→w.cell? (sa.add j)=some u:=fun j u hj=>by
  have hp:0<news.length:=by have:=(List.getElem?_eq_some_iff.1 hj).1;omega
  obtain ⟨b,off,e4,hcell⟩:=hc hp;rw[← e1] at e4;obtain rfl:=Option.some.inj e4;rw[yM];exact hcell j u hj
 rcases h.2 with ⟨h',_⟩|⟨g',c2,cur,h',hb,hg,hnc,hcm,hcs,jP⟩
 ·
  cases h'
 injection h' with h' _ h'';injection h' with h';injection h' with h' _;subst h' h'';have hx1:=h.1;have hfit:n*4+news.length≤cur.size:=by rw[hl,hcs];omega
 refine ⟨_,fun ty=>run_append_room (P:=Tryz.prog) w 33 ty 49 x Tryz.underlying33 hx g n cap cur hg sa m sc news (by rw[hs4];exact hl) hnews h1 hr (by rw[hs4];exact hfit),⟨?_,.inr ⟨g,cap,_,rfl,hb,setRow_heap w g cur _ _ _ hg,hr,hcm,?_,?_⟩⟩,⟨rfl,rfl,rfl,by simp,fun k _ hk=>setRow_other w g k _ (fun e=>hk (by rw[e]))⟩⟩
 ·
  rw[aw,hx1,hl,cq]
 ·
  rw[hs4];simp only[cu,aw,ay,aP,dM];omega
 rw[hs4,jP];have:(xs++news).length=(n+m)*4:=by rw[aw,hx1,hl,cq]
 rw[← this];exact List.take_left
end Go.Proofs.YtcgfilmmokmdjaaGreat
