/- A part of the walk. -/
import Derived.Test.YtcgfilmmokmdjaaGreatQAB
import Derived.StillTailTactics
import Derived.Test.YtcgfilmmokmdjaaGreatQAA
set_option linter.all false
set_option maxRecDepth 100000
set_option maxHeartbeats 32000000
namespace Go.Proofs.YtcgfilmmokmdjaaGreat
open Go.RowKit
def Na (x y : Int) : Int:=if x < y then -1 else if y < x then 1 else 0
theorem zG9 (x y : Int) : (decide (Na x y < 0)) = decide (x < y):=by
 unfold Na
 by_cases h : x < y
 ·
  rw [ag h]; simp [h]
 rw [ah h]
 by_cases h2 : y < x
 ·
  rw [ag h2]; simp [h]
 rw [ah h2]; simp [h]
theorem vj (x : Int) (w : World) : Calls Tryz.prog 198 #[.int .u64 x] w fun e w' => e = .returned (.bool false) ∧ Below w.heap.size w w':=by
 go_enter Tryz.func198,Tryz.ntmps198
 have hx : (x != x) = false:=by simp
 go_wp2_with fail;go_ret;exact ⟨rfl,aj _ _⟩
theorem zE9 (x y : Int) (w : World) : Calls Tryz.prog 175 #[.int .u64 x,.int .u64 y] w fun e w' => e = .returned (.int .i64 (Na x y)) ∧ Below w.heap.size w w':=by
 unfold Na
 by_cases h : x < y
 ·
  rw [ag h]
  go_enter Tryz.func175,Tryz.ntmps175
  go_wp2_with fail;refine (vj _ _).mono ?_; rintro e w1 ⟨rfl,hb1⟩;have eW:=zh hb1;clear hb1;go_wp2_with fail;refine (vj _ _).mono ?_; rintro e w2 ⟨rfl,hb2⟩;have eV:=zh (zA eW.out hb2);clear hb2;go_wp2_with fail;go_ret;exact ⟨rfl,eV.out⟩
 rw [ah h]
 by_cases h2 : y < x
 ·
  rw [ag h2]
  go_enter Tryz.func175,Tryz.ntmps175
  go_wp2_with fail;refine (vj _ _).mono ?_; rintro e w1 ⟨rfl,hb1⟩;have eW:=zh hb1;clear hb1;go_wp2_with fail;refine (vj _ _).mono ?_; rintro e w2 ⟨rfl,hb2⟩;have eV:=zh (zA eW.out hb2);clear hb2;go_wp2_with fail;go_ret;exact ⟨rfl,eV.out⟩
 rw [ah h2]
 go_enter Tryz.func175,Tryz.ntmps175
 go_wp2_with fail;refine (vj _ _).mono ?_; rintro e w1 ⟨rfl,hb1⟩;have eW:=zh hb1;clear hb1;go_wp2_with fail;refine (vj _ _).mono ?_; rintro e w2 ⟨rfl,hb2⟩;have eV:=zh (zA eW.out hb2);clear hb2;go_wp2_with fail;go_ret;exact ⟨rfl,eV.out⟩
theorem zFE (x y : It) (w : World) : Calls Tryz.prog 174 #[jS x,jS y] w fun e w' => e = .returned (.int .i64 (Na x.key y.key)) ∧ Below w.heap.size w w':=by
 have HW:=zh (show Below w.heap.size w ((w.alloc (.cells #[.int .u64 x.key,.int .u32 x.ck,.int .i64 x.off,.int .i64 x.size] 49)).alloc (.cells #[.int .u64 y.key,.int .u32 y.ck,.int .i64 y.off,.int .i64 y.size] 49)) from ((aj _ _).alloc (ai _) _).alloc (by simp) _)
 go_enter Tryz.func174,Tryz.ntmps174
 go_wp2_with fail;refine (zE9 _ _ _).mono ?_; rintro e w1 ⟨rfl,hb1⟩;have eW:=zh (zA HW.out hb1);clear hb1;go_wp2_with fail;go_ret;exact ⟨rfl,eW.out⟩
def tp (d : List It) (i j : Nat) : List It:=(d.set i (d_ d j)).set j (d_ d i)
def qz (d : List It) (a b : Nat) : Nat → List It
 | 0 => d
 | i + 1 => tp (qz d a b i) (a + i) (b + i)
theorem uX (d : List It) (i j : Nat) : (tp d i j).length = d.length:=by unfold tp; rw [bC,bC]
theorem xX (d : List It) (a b : Nat) : ∀ i,(qz d a b i).length = d.length
 | 0 => rfl
 | i + 1 => by show (tp _ _ _).length = _; rw [uX,xX]
def Km (w : World) (g k : Nat) (y : It) : World:=(((w.setCell ⟨g,k * 4,none⟩ (.int .u64 y.key)).setCell ⟨g,k * 4 + 1,none⟩ (.int .u32 y.ck)).setCell ⟨g,k * 4 + 2,none⟩ (.int .i64 y.off)).setCell ⟨g,k * 4 + 3,none⟩ (.int .i64 y.size)
theorem zq {a b c : World} {r : Option Nat} (a1 : a.grownBy b r) (a2 : b.grownBy c r) : a.grownBy c r:=
 ⟨a2.os.trans a1.os,a2.tape.trans a1.tape,a2.output.trans a1.output,ak a1.size a2.size,fun k hk hne => (a2.block k (dt hk a1.size) hne).trans (a1.block k hk hne)⟩
theorem zFz (a : World) (r : Option Nat) : a.grownBy a.drew r:=⟨rfl,rfl,rfl,ai _,fun _ _ _ => rfl⟩
theorem zEY {w : World} {B g n cap : Nat} {q : List It} (h : w.ownsRow B 49 4 (.slice (some ⟨g,0,none⟩) n cap) n (zU q)) (k : Nat) (hk : k < q.length) (y : It) :
  (Km w g k y).ownsRow B 49 4 (.slice (some ⟨g,0,none⟩) n cap) n (zU (q.set k y)) ∧ w.grownBy (Km w g k y) (some g):=by
 have s1:=h.stored (k * 4) (.int .u64 y.key);have s2:=s1.1.stored (k * 4 + 1) (.int .u32 y.ck);have s3:=s2.1.stored (k * 4 + 2) (.int .i64 y.off);have s4:=s3.1.stored (k * 4 + 3) (.int .i64 y.size);exact ⟨VE h k hk y,zq (zq (zq s1.2 s2.2) s3.2) s4.2⟩
theorem VN {w : World} {B g n cap : Nat} {q : List It} (h : w.ownsRow B 49 4 (.slice (some ⟨g,0,none⟩) n cap) n (zU q)) (hq : q.length = n) {i j : Nat} (hi : i < n) (hj : j < n) {x y : It} (hx : d_ q i = x) (hy : d_ q j = y) :
  (Km (Km w g i y) g j x).drew.ownsRow B 49 4 (.slice (some ⟨g,0,none⟩) n cap) n (zU (tp q i j)) ∧ w.grownBy (Km (Km w g i y) g j x).drew (some g):=by
 obtain ⟨h1,g1⟩:=zEY h i (by omega) y;obtain ⟨h2,g2⟩:=zEY h1 j (by rw [bC]; omega) x;unfold tp;rw [hx,hy];exact ⟨h2.drew,zq (zq g1 g2) (zFz _ _)⟩
theorem tO (g n cap a b k B : Nat) (d : List It) (fv : Value) (w : World) (hown : w.ownsRow B 49 4 (.slice (some ⟨g,0,none⟩) n cap) n (zU d)) (hn : d.length = n) (hs : n ≤ 1000000) (hab : a + k ≤ b) (hb : b + k ≤ n) :
  Calls Tryz.prog 216 #[.slice (some ⟨g,0,none⟩) n cap,.int .i64 (a : Int),.int .i64 (b : Int),.int .i64 (k : Int),fv] w fun e w' => e = .returned (.tuple #[]) ∧ w'.ownsRow B 49 4 (.slice (some ⟨g,0,none⟩) n cap) n (zU (qz d a b k)) ∧ w.grownBy w' (some g):=by
 have HO:=zh hown;have HL:=zh (fun i => (xX d a b i).trans hn);have HS:=zh (fun i => show qz d a b (i + 1) = tp (qz d a b i) (a + i) (b + i) from rfl);have hgr : w.grownBy w (some g):=⟨rfl,rfl,rfl,ai _,fun _ _ _ => rfl⟩
 have HG:=zh hgr;have H0:=zh (show qz d a b 0 = d from rfl);clear hown hn hgr
 go_enter Tryz.func216,Tryz.ntmps216
 go_wp2_with fail
 go_loopw [10] (fun iv wr => ∃ i : Nat,iv = .int .i64 (i : Int) ∧ i ≤ k ∧ wr.ownsRow B 49 4 (.slice (some ⟨g,0,none⟩) n cap) n (zU (qz d a b i)) ∧ w.grownBy wr (some g)) (fun iv _ => k - (intOf iv).toNat)
 case atStart => exact ⟨0,rfl,by omega,by rw [H0.out]; exact HO.out,HG.out⟩
 obtain ⟨i,rfl,hi,hown,hgr⟩:=hrel;have Ho:=zh hown;have Hg:=zh hgr;clear hown hgr
 by_cases hlt : i < k
 ·
  have EH:=zh (HL.out i);have Nb:=zh (HS.out i);generalize qz d a b i = q at *;obtain ⟨_,_,e,c0,c1,c2,c3⟩:=(yt (zw Ho.out)).at (show a + i < n by omega);injection e with e; injection e with e1 e2; subst e1 e2;obtain ⟨_,_,e,d0,d1,d2,d3⟩:=(yt (zw Ho.out)).at (show b + i < n by omega);injection e with e; injection e with e1 e2; subst e1 e2;simp only [aJ] at c0 c1 c2 c3 d0 d1 d2 d3;have j1 : IntKind.i64.wrap ((a : Int) + (i : Int)) = (a : Int) + (i : Int):=aF _ (by omega);have j2 : IntKind.i64.wrap ((b : Int) + (i : Int)) = (b : Int) + (i : Int):=aF _ (by omega);have j3 : ((a : Int) + (i : Int)).toNat = a + i:=by omega
  have j4 : ((b : Int) + (i : Int)).toNat = b + i:=by omega
  go_wp2_with fail;have j5 : (0 : Int) ≤ (a : Int) + (i : Int):=by omega
  have j6 : (0 : Int) ≤ (b : Int) + (i : Int):=by omega
  have j7 : (a : Int) + (i : Int) < (n : Int):=by omega
  have j8 : (b : Int) + (i : Int) < (n : Int):=by omega
  have fz:=fun k => Ho.out.frozenAt k
  have f0:=fz ((a + i) * 4);have f1:=fz ((a + i) * 4 + 1);have f2:=fz ((a + i) * 4 + 2);have f3:=fz ((a + i) * 4 + 3);have f4:=fz ((b + i) * 4);have f5:=fz ((b + i) * 4 + 1);have f6:=fz ((b + i) * 4 + 2);have f7:=fz ((b + i) * 4 + 3);clear fz;generalize hx : d_ q (a + i) = x at *;generalize hy : d_ q (b + i) = y at *;have pU:=zh (And.intro hx hy);clear hx hy;have HF:=zh (VN Ho.out EH.out (i:=a + i) (j:=b + i) (by omega) (by omega) pU.out.1 pU.out.2)
  go_region_with (fail)
  all_goals go_wp2_with fail
  all_goals exact ⟨⟨i + 1,by go_num,by omega,by rw [Nb.out]; exact HF.out.1,zq Hg.out HF.out.2⟩,by simp [intOf]; omega⟩
 obtain rfl : i = k:=by omega
 go_wp2_with fail;go_end0;exact ⟨rfl,Ho.out,Hg.out⟩
end Go.Proofs.YtcgfilmmokmdjaaGreat
namespace Go.Proofs.YtcgfilmmokmdjaaGreat
theorem zGw {d : List It} {i : Nat} {x : It} (hi : i < d.length) (j : Nat) : d_ (d.set i x) j = if j = i then x else d_ d j:=by
 unfold d_;rw [aw,aw,dK]
 by_cases h : j = i
 ·
  subst h; rw [ag rfl,ag rfl,ag hi]; rfl
 rw [ah (aR h),ah h]
theorem ke {d : List It} {i j : Nat} (hi : i < d.length) (hj : j < d.length) (k : Nat) : d_ (tp d i j) k = if k = j then d_ d i else if k = i then d_ d j else d_ d k:=by
 unfold tp;rw [zGw (by rw [bC]; exact hj),zGw hi]
theorem zG1 {d : List It} {a b : Nat} : ∀ (k : Nat),a + k ≤ b → b + k ≤ d.length → ∀ i,d_ (qz d a b k) i = if a ≤ i ∧ i < a + k then d_ d (i - a + b) else if b ≤ i ∧ i < b + k then d_ d (i - b + a) else d_ d i
 | 0,_,_,i => by rw [ah (by omega),ah (by omega)]; rfl
 | k + 1,h1,h2,i => by
  have ih:=zG1 (d:=d) (a:=a) (b:=b) k (by omega) (by omega)
  show d_ (tp (qz d a b k) (a + k) (b + k)) i = _
  rw [ke (by rw [xX]; omega) (by rw [xX]; omega)]
  by_cases e1 : i = b + k
  ·
   subst e1;rw [ag rfl,ih,ah (by omega),ah (by omega),ah (by omega),ag (by omega)]
   congr 1; omega
  rw [ah e1]
  by_cases e2 : i = a + k
  ·
   subst e2;rw [ag rfl,ih,ah (by omega),ah (by omega),ag (by omega)]
   congr 1; omega
  rw [ah e2,ih]
  by_cases c1 : a ≤ i ∧ i < a + k
  ·
   rw [ag c1,ag (by omega)]
  rw [ah c1,ah (show ¬ (a ≤ i ∧ i < a + (k + 1)) by omega)]
  by_cases c2 : b ≤ i ∧ i < b + k
  ·
   rw [ag c2,ag (by omega)]
  rw [ah c2,ah (show ¬ (b ≤ i ∧ i < b + (k + 1)) by omega)]
theorem TD {u v : List It} (hl : u.length = v.length) (h : ∀ i,i < u.length → d_ u i = d_ v i) : u = v:=by
 apply List.ext_getElem hl;intro i h1 h2;rw [vV h1,vV h2]; exact h i h1
theorem qG {P X Y Z Q : List It} (h : X.length = Z.length) : qz (P ++ (X ++ (Y ++ (Z ++ Q)))) P.length (P.length + X.length + Y.length) X.length = P ++ (Z ++ (Y ++ (X ++ Q))):=by
 refine TD (by rw [xX]; simp only [ax]; omega) fun i hi => ?_
 rw [xX] at hi;simp only [ax] at hi;rw [zG1 _ (by omega) (by simp only [ax]; omega)]
 by_cases p1 : i < P.length
 ·
  rw [ah (by omega),ah (by omega),xI p1,xI p1]
 by_cases p2 : i < P.length + X.length
 ·
  rw [ag (by omega),zx (u:=P) (by omega),zx (u:=X) (by omega),zx (u:=Y) (by omega),xI (u:=Z) (by omega),zx (u:=P) (by omega),xI (u:=Z) (by omega)]
  congr 1; omega
 by_cases p3 : i < P.length + X.length + Y.length
 ·
  rw [ah (by omega),ah (by omega),zx (u:=P) (by omega),zx (u:=X) (by omega),xI (u:=Y) (by omega),zx (u:=P) (by omega),zx (u:=Z) (by omega),xI (u:=Y) (by omega)]
  congr 1; omega
 by_cases p4 : i < P.length + X.length + Y.length + Z.length
 ·
  rw [ah (by omega),ag (by omega),zx (u:=P) (by omega),xI (u:=X) (by omega),zx (u:=P) (by omega),zx (u:=Z) (by omega),zx (u:=Y) (by omega),xI (u:=X) (by omega)]
  congr 1; omega
 rw [ah (by omega),ah (by omega),zx (u:=P) (by omega),zx (u:=X) (by omega),zx (u:=Y) (by omega),zx (u:=Z) (by omega),zx (u:=P) (by omega),zx (u:=Z) (by omega),zx (u:=Y) (by omega),zx (u:=X) (by omega)]
 congr 1; omega
end Go.Proofs.YtcgfilmmokmdjaaGreat
namespace Go.Proofs.YtcgfilmmokmdjaaGreat
open Go.RowKit
structure rh (T q : List It) (m i j : Nat) : Prop where
 ex : ∃ P U V Q : List It,q = P ++ (U ++ (V ++ Q)) ∧ T = P ++ (V ++ (U ++ Q)) ∧ U.length = i ∧ V.length = j ∧ P.length + i = m
 hi : 0 < i
 hj : 0 < j
theorem rh.gt {T q : List It} {m i j : Nat} (h : rh T q m i j) (hij : j < i) : rh T (qz q (m - i) m j) m (i - j) j:=by
 obtain ⟨⟨P,U,V,Q,rfl,rfl,hu,hv,hm⟩,h1,h2⟩:=h;refine ⟨⟨P ++ V,U.drop j,U.take j,Q,?_,?_,by rw [aP]; omega,by rw [ay]; omega,by rw [ax]; omega⟩,by omega,h2⟩
 ·
  have hx : (U.take j).length = V.length:=by rw [ay]; omega
  have hb:=qG (P:=P) (X:=U.take j) (Y:=U.drop j) (Z:=V) (Q:=Q) hx;have hlen : P.length + (U.take j).length + (U.drop j).length = m:=by rw [ay,aP]; omega
  rw [hlen,hx,hv,show P.length = m - i by omega,← a_ (U.take j),bN] at hb;rw [hb]; simp
 simp only [a_];rw [← a_ (U.take j),bN]
theorem rh.lt {T q : List It} {m i j : Nat} (h : rh T q m i j) (hij : i < j) : rh T (qz q (m - i) (m + j - i) i) m i (j - i):=by
 obtain ⟨⟨P,U,V,Q,rfl,rfl,hu,hv,hm⟩,h1,h2⟩:=h;refine ⟨⟨P,V.drop (j - i),V.take (j - i),U ++ Q,?_,?_,by rw [aP]; omega,by rw [ay]; omega,hm⟩,h1,by omega⟩
 ·
  have hx : U.length = (V.drop (j - i)).length:=by rw [aP]; omega
  have hb:=qG (P:=P) (X:=U) (Y:=V.take (j - i)) (Z:=V.drop (j - i)) (Q:=Q) hx;have hlen : P.length + U.length + (V.take (j - i)).length = m + j - i:=by rw [ay]; omega
  rw [hlen,hu,show P.length = m - i by omega,← a_ (V.take (j - i)),bN] at hb;rw [hb]
 rw [← a_ (V.take (j - i)),bN]
theorem rh.eq {T q : List It} {m i : Nat} (h : rh T q m i i) : qz q (m - i) m i = T:=by
 obtain ⟨⟨P,U,V,Q,rfl,rfl,hu,hv,hm⟩,h1,h2⟩:=h;have hb:=qG (P:=P) (X:=U) (Y:=[]) (Z:=V) (Q:=Q) (by omega);rw [hu,show P.length = m - i by omega] at hb;simp only [dM,bV,bu] at hb;rw [show m - i + i = m by omega] at hb;exact hb
theorem rh.len {T q : List It} {m i j : Nat} (h : rh T q m i j) : i ≤ m ∧ m + j ≤ q.length:=by
 obtain ⟨⟨P,U,V,Q,rfl,rfl,hu,hv,hm⟩,h1,h2⟩:=h;simp only [ax]; omega
theorem zGO {d : List It} {a m b : Nat} (h1 : a < m) (h2 : m < b) (h3 : b ≤ d.length) : rh (eN d a m b) d m (m - a) (b - m):=by
 refine ⟨⟨d.take a,jr d a m,jr d m b,d.drop b,?_,?_,yq (by omega),yq h3,by rw [ay]; omega⟩,by omega,by omega⟩
 ·
  have:=parts (d:=d) (a:=a) (b:=b) (by omega);rw [qZ (bU h1) (bU h2)] at this
  simpa using this
 unfold eN; simp
theorem zFw (g n cap a m b B : Nat) (d : List It) (fv : Value) (w : World) (hown : w.ownsRow B 49 4 (.slice (some ⟨g,0,none⟩) n cap) n (zU d)) (hn : d.length = n) (hs : n ≤ 1000000) (h1 : a < m) (h2 : m < b) (h3 : b ≤ n) :
  Calls Tryz.prog 214 #[.slice (some ⟨g,0,none⟩) n cap,.int .i64 (a : Int),.int .i64 (m : Int),.int .i64 (b : Int),fv] w fun e w' => e = .returned (.tuple #[]) ∧ w'.ownsRow B 49 4 (.slice (some ⟨g,0,none⟩) n cap) n (zU (eN d a m b)) ∧ w.grownBy w' (some g):=by
 have HO:=zh hown;have HR:=zh (zGO h1 h2 (by omega) : rh (eN d a m b) d m (m - a) (b - m));have hgr : w.grownBy w (some g):=⟨rfl,rfl,rfl,ai _,fun _ _ _ => rfl⟩
 have HG:=zh hgr;have HN:=zh hn;generalize eN d a m b = T at *;clear hown hgr hn
 go_enter Tryz.func214,Tryz.ntmps214
 go_wp2_with fail
 go_loopw [10,11] (fun iv jv wr => ∃ (i j : Nat) (q : List It),iv = .int .i64 (i : Int) ∧ jv = .int .i64 (j : Int) ∧ rh T q m i j ∧ q.length = n ∧ wr.ownsRow B 49 4 (.slice (some ⟨g,0,none⟩) n cap) n (zU q) ∧ w.grownBy wr (some g)) (fun iv jv _ => (intOf iv).toNat + (intOf jv).toNat)
 case atStart => exact ⟨m - a,b - m,d,by go_num,by go_num,HR.out,HN.out,HO.out,HG.out⟩
 obtain ⟨i,j,q,rfl,rfl,hr,hq,ho,hg⟩:=hrel;have hl:=hr.len;have hip:=hr.hi;have hjp:=hr.hj;rw [hq] at hl;have Ho:=zh ho;have Hg:=zh hg;have Hr:=zh hr;have Hq:=zh hq;clear ho hg hr hq;rcases Nat.lt_trichotomy i j with hij | hij | hij
 ·
  have HC:=zh (tO g n cap (m - i) (m + j - i) i B q fv wr Ho.out Hq.out hs (by omega) (by omega));have e1 : ((m - i : Nat) : Int) = (m : Int) - (i : Int):=by omega
  have e2 : ((m + j - i : Nat) : Int) = (m : Int) + (j : Int) - (i : Int):=by omega
  rw [e1,e2] at HC;have gj:=zh (Hr.out.lt hij);have Jm:=zh ((xX q (m - i) (m + j - i) i).trans Hq.out);generalize qz q (m - i) (m + j - i) i = q2 at *;clear e1 e2;have hne : ((i : Int) != (j : Int)) = true:=by rw [bne_iff_ne]; omega
  go_wp2_with fail;refine HC.out.mono ?_; rintro e w2 ⟨rfl,eC,fB⟩;have gu:=zh eC;have jt:=zh (zq Hg.out fB);clear eC fB;go_wp2_with fail;exact ⟨⟨i,j - i,q2,rfl,by go_num,gj.out,Jm.out,gu.out,jt.out⟩,by simp [intOf]; omega⟩
 ·
  subst hij;have HC:=zh (tO g n cap (m - i) m i B q fv wr Ho.out Hq.out hs (by omega) (by omega));have e1 : ((m - i : Nat) : Int) = (m : Int) - (i : Int):=by omega
  rw [e1,Hr.out.eq] at HC;clear e1;have hne : ((i : Int) != (i : Int)) = false:=by simp
  go_wp2_with fail;refine HC.out.mono ?_; rintro e w2 ⟨rfl,eC,fB⟩;have gu:=zh eC;have jt:=zh (zq Hg.out fB);clear eC fB;go_wp2_with fail;go_end0;exact ⟨rfl,gu.out,jt.out⟩
 have HC:=zh (tO g n cap (m - i) m j B q fv wr Ho.out Hq.out hs (by omega) (by omega));have e1 : ((m - i : Nat) : Int) = (m : Int) - (i : Int):=by omega
 rw [e1] at HC;have gj:=zh (Hr.out.gt hij);have Jm:=zh ((xX q (m - i) m j).trans Hq.out);generalize qz q (m - i) m j = q2 at *;clear e1;have hne : ((i : Int) != (j : Int)) = true:=by rw [bne_iff_ne]; omega
 go_wp2_with fail;refine HC.out.mono ?_; rintro e w2 ⟨rfl,eC,fB⟩;have gu:=zh eC;have jt:=zh (zq Hg.out fB);clear eC fB;go_wp2_with fail;exact ⟨⟨i - j,j,q2,by go_num,rfl,gj.out,Jm.out,gu.out,jt.out⟩,by simp [intOf]; omega⟩
theorem zF6 {q : List It} {j : Nat} (h0 : 0 < j) (hj : j < q.length) (hk : (d_ q j).key < (d_ q (j - 1)).key) : Moved q (tp q j (j - 1)) (j - 1) (j + 1):=by
 have M:=qp (d:=q) (s:=j - 1) (m:=j) (e:=j + 1) (by omega) (by omega) (by omega) (fun i i1 i2 k k1 k2 => by
  obtain rfl : i = j - 1:=by omega
  obtain rfl : k = j:=by omega
  omega)
 have e : tp q j (j - 1) = eN q (j - 1) j (j + 1):=by
  refine TD (by rw [uX,M.len]) fun i _ => ?_
  rw [ke hj (by omega)]
  by_cases e1 : i = j - 1
  ·
   rw [ag e1,vK (by omega) (by omega) (by omega) (by omega) (by omega)]; congr 1; omega
  rw [ah e1]
  by_cases e2 : i = j
  ·
   rw [ag e2,vJ (by omega) (by omega) (by omega) (by omega) (by omega)]; congr 1; omega
  rw [ah e2,M.out (by omega)]
 rw [e]; exact M
structure Way (d q : List It) (a b i j : Nat) : Prop where
 mv : Moved d q a b
 rest : ∀ x y,a ≤ x → x < y → y ≤ i → x ≠ j → y ≠ j → (d_ q x).key ≤ (d_ q y).key
 up : ∀ y,j < y → y ≤ i → (d_ q j).key ≤ (d_ q y).key
 lo : a ≤ j
 hi : j ≤ i
 ib : i < b
theorem Way.start {d q : List It} {a b i : Nat} (m : Moved d q a b) (n : iK q a i) (h : a ≤ i) (hb : i < b) : Way d q a b i i:=
 ⟨m,fun x y x1 xy y1 _ y2 => n x y x1 xy (by omega),fun y y1 y2 => by omega,h,ai _,hb⟩
theorem Way.done {d q : List It} {a b i j : Nat} (h : Way d q a b i j) (hs : j = a ∨ (d_ q (j - 1)).key ≤ (d_ q j).key) : iK q a (i + 1):=fun x y x1 xy y2 => by
 by_cases e1 : x = j
 ·
  subst e1; exact h.up y xy (by omega)
 by_cases e2 : y = j
 ·
  subst e2;rcases hs with hs | hs
  ·
   omega
  by_cases e3 : x = y - 1
  ·
   subst e3; exact hs
  exact Int.le_trans (h.rest x (y - 1) x1 (by omega) (by have:=h.hi; omega) e1 (by omega)) hs
 exact h.rest x y x1 xy (by omega) e1 e2
theorem Way.step {d q : List It} {a b i j : Nat} (h : Way d q a b i j) (hb : b ≤ q.length) (ha : a < j) (hk : (d_ q j).key < (d_ q (j - 1)).key) : Way d (tp q j (j - 1)) a b i (j - 1):=by
 have hib:=h.ib;have hji:=h.hi;have at_:=ke (d:=q) (i:=j) (j:=j - 1) (by omega) (by omega);have M:=zF6 (q:=q) (j:=j) (by omega) (by omega) hk;refine ⟨h.mv.trans (M.wide (by omega) (by omega) (by omega)),fun x y x1 xy y1 x2 y2 => ?_,fun y y1 y2 => ?_,by omega,by omega,hib⟩
 ·
  rw [at_,at_,ah x2,ah y2]
  by_cases e1 : x = j
  ·
   rw [ag e1,ah (by omega)]; exact h.rest (j - 1) y (by omega) (by omega) y1 (by omega) (by omega)
  rw [ah e1]
  by_cases e2 : y = j
  ·
   rw [ag e2]; exact h.rest x (j - 1) x1 (by omega) (by omega) e1 (by omega)
  rw [ah e2]; exact h.rest x y x1 xy y1 e1 e2
 rw [at_,at_,ag rfl,ah (by omega)]
 by_cases e1 : y = j
 ·
  rw [ag e1]; omega
 rw [ah e1]; exact h.up y (by omega) y2
theorem xb {a b : World} (h : a.grownBy b none) (r : Option Nat) : a.grownBy b r:=⟨h.os,h.tape,h.output,h.size,fun k hk _ => h.block k hk (by simp)⟩
theorem kD (g n cap a b B : Nat) (d : List It) (w : World) (hown : w.ownsRow B 49 4 (.slice (some ⟨g,0,none⟩) n cap) n (zU d)) (hn : d.length = n) (hs : n ≤ 1000000) (h1 : a ≤ b) (h2 : b ≤ n) :
  Calls Tryz.prog 186 #[.slice (some ⟨g,0,none⟩) n cap,.int .i64 (a : Int),.int .i64 (b : Int),.func (.func 174) #[] #[]] w fun e w' => e = .returned (.tuple #[]) ∧ ∃ d',w'.ownsRow B 49 4 (.slice (some ⟨g,0,none⟩) n cap) n (zU d') ∧ Moved d d' a b ∧ iK d' a b ∧ w.grownBy w' (some g):=by
 have HO:=zh hown;have hgr : w.grownBy w (some g):=⟨rfl,rfl,rfl,ai _,fun _ _ _ => rfl⟩
 have HG:=zh hgr;have HN:=zh hn;have HM:=zh (Moved.refl d a b);have HL:=zh (fun q (h : Moved d q a b) => h.len.trans hn);clear hown hgr hn
 go_enter Tryz.func186,Tryz.ntmps186
 go_wp2_with fail
 go_loopw [8] (fun iv wr => ∃ (i : Nat) (q : List It),iv = .int .i64 (i : Int) ∧ a < i ∧ (i ≤ b ∨ i = a + 1) ∧ Moved d q a b ∧ iK q a i ∧ wr.ownsRow B 49 4 (.slice (some ⟨g,0,none⟩) n cap) n (zU q) ∧ w.grownBy wr (some g)) (fun iv _ => n + 1 - (intOf iv).toNat)
 case atStart => exact ⟨a + 1,d,by go_num,by omega,by omega,HM.out,fun i j i1 ij j2 => by omega,HO.out,HG.out⟩
 obtain ⟨i,q,rfl,hi,hib,hm,hnd,ho,hg⟩:=hrel;have Hm:=zh hm;have Qv:=zh hnd;have Ho:=zh ho;have Hg:=zh hg;clear hm hnd ho hg
 by_cases hlt : i < b
 ·
  have HW:=zh (Way.start Hm.out Qv.out (by omega) hlt);go_wp2_with fail
  go_loopw [9] (fun jv wj => ∃ (j : Nat) (q : List It),jv = .int .i64 (j : Int) ∧ a ≤ j ∧ j ≤ i ∧ Way d q a b i j ∧ wj.ownsRow B 49 4 (.slice (some ⟨g,0,none⟩) n cap) n (zU q) ∧ w.grownBy wj (some g)) (fun jv _ => (intOf jv).toNat)
  case atStart => exact ⟨i,q,rfl,by omega,by omega,HW.out,Ho.out,Hg.out⟩
  obtain ⟨j,r,rfl,hja,hji,hw,ho,hg⟩:=hrel;have Hw:=zh hw;have Ho:=zh ho;have Hg:=zh hg;have hlr:=HL.out _ hw.mv;have HLr:=zh hlr;clear hw ho hg hlr
  by_cases hgt : a < j
  ·
   obtain ⟨_,_,e,c0,c1,c2,c3⟩:=(yt (zw Ho.out)).at (show j < n by omega);injection e with e; injection e with e1 e2; subst e1 e2;obtain ⟨_,_,e,d0,d1,d2,d3⟩:=(yt (zw Ho.out)).at (show j - 1 < n by omega);injection e with e; injection e with e1 e2; subst e1 e2;simp only [aJ] at c0 c1 c2 c3 d0 d1 d2 d3;have HV:=zh (fun W => zFE (d_ r j) (d_ r (j - 1)) W);have hcl:=zG9 (d_ r j).key (d_ r (j - 1)).key;obtain ⟨x,hx⟩ : ∃ x,d_ r j = x:=⟨_,rfl⟩
   obtain ⟨y,hy⟩ : ∃ y,d_ r (j - 1) = y:=⟨_,rfl⟩
   have pU:=zh (And.intro hx hy);rw [hx] at c0 c1 c2 c3 HV hcl;rw [hy] at d0 d1 d2 d3 HV hcl;clear hx hy;obtain ⟨c,hc⟩ : ∃ c,Na x.key y.key = c:=⟨_,rfl⟩
   rw [hc] at HV hcl;clear hc;have hcl:=zh hcl;have j1 : IntKind.i64.wrap ((j : Int) - 1) = (j : Int) - 1:=aF _ (by omega);have j2 : (0 : Int) ≤ (j : Int) - 1:=by omega
   have j3 : ((j : Int) - 1).toNat = j - 1:=by omega
   have j4 : (j : Int) - 1 < (n : Int):=by omega
   have j5 : (j : Int) < (n : Int):=by omega
   have f0:=zB c0;have f1:=zB c1;have f2:=zB c2;have f3:=zB c3;have f4:=zB d0;have f5:=zB d1;have f6:=zB d2;have f7:=zB d3;clear c0 c1 c2 c3 d0 d1 d2 d3
   by_cases hk : c < 0
   ·
    have hkk : x.key < y.key:=by have:=hcl.out; rw [aD hk] at this; exact aX this.symm
    go_wp2_with fail;refine zC (by kernel_rfl) (by kernel_rfl) ?_
    repeat (go_big_quiet_step ((exact zE (HV.out _))))
    refine aA ?_;intro _ hw';obtain ⟨p,hw'⟩:=hw';subst hw';have Hp:=zh (zI Ho.out p.h);have Gp:=zh (zq Hg.out (xb (grown_of p.h) (some g)));obtain ⟨_,_,e,c0,c1,c2,c3⟩:=(yt (zw Hp.out)).at (show j < n by omega);injection e with e; injection e with e1 e2; subst e1 e2;obtain ⟨_,_,e,d0,d1,d2,d3⟩:=(yt (zw Hp.out)).at (show j - 1 < n by omega);injection e with e; injection e with e1 e2; subst e1 e2;simp only [aJ] at c0 c1 c2 c3 d0 d1 d2 d3;rw [pU.out.1] at c0 c1 c2 c3;rw [pU.out.2] at d0 d1 d2 d3;have fz:=fun k => Hp.out.frozenAt k
    have z0:=fz (j * 4);have z1:=fz (j * 4 + 1);have z2:=fz (j * 4 + 2);have z3:=fz (j * 4 + 3);have z4:=fz ((j - 1) * 4);have z5:=fz ((j - 1) * 4 + 1);have z6:=fz ((j - 1) * 4 + 2);have z7:=fz ((j - 1) * 4 + 3);clear fz f0 f1 f2 f3 f4 f5 f6 f7;have HF:=zh (VN Hp.out HLr.out (i:=j) (j:=j - 1) (by omega) (by omega) pU.out.1 pU.out.2);have HS:=zh (Hw.out.step (by rw [HLr.out]; exact h2) hgt (by rw [pU.out.1,pU.out.2]; exact hkk));generalize p.w' = wp at *;clear hkk;go_wp2_with fail
    go_region_with (fail)
    all_goals go_wp2_with fail
    all_goals exact ⟨⟨j - 1,tp r j (j - 1),by go_num,by omega,by omega,HS.out,HF.out.1,zq Gp.out HF.out.2⟩,by simp [intOf]; omega⟩
   have hkk : ¬ x.key < y.key:=by have:=hcl.out; rw [aC hk] at this; exact cD this.symm
   have HD:=zh (Hw.out.done (Or.inr (by rw [pU.out.1,pU.out.2]; omega)));have Pr : decide (c < 0) = false:=aC hk;have ajt : decide (x.key < y.key) = false:=aC hkk;clear hk;go_wp2_with fail;refine zC (by kernel_rfl) (by kernel_rfl) ?_
   repeat (go_big_quiet_step ((exact zE (HV.out _))))
   refine aA ?_;intro _ hw';obtain ⟨p,hw'⟩:=hw';subst hw';have Hp:=zh (zI Ho.out p.h);have Gp:=zh (zq Hg.out (xb (grown_of p.h) (some g)));generalize p.w' = wp at *;go_wp2_with fail;exact ⟨⟨i + 1,r,by go_num,by omega,by omega,Hw.out.mv,HD.out,Hp.out,Gp.out⟩,by simp [intOf]; omega⟩
  obtain rfl : j = a:=by omega
  have HD:=zh (Hw.out.done (Or.inl rfl));go_wp2_with fail;refine zC (by kernel_rfl) (by kernel_rfl) ?_
  repeat (go_big_quiet_step (fail))
  refine aA ?_;intro _ hw';obtain ⟨p,hw'⟩:=hw';subst hw';have Hp:=zh (zI Ho.out p.h);have Gp:=zh (zq Hg.out (xb (grown_of p.h) (some g)));generalize p.w' = wp at *;go_wp2_with fail;exact ⟨⟨i + 1,r,by go_num,by omega,by omega,Hw.out.mv,HD.out,Hp.out,Gp.out⟩,by simp [intOf]; omega⟩
 have HD:=zh (show iK q a b from fun x y x1 xy y2 => Qv.out x y x1 xy (by omega));go_wp2_with fail;go_end0;exact ⟨rfl,q,Ho.out,Hm.out,HD.out,Hg.out⟩
end Go.Proofs.YtcgfilmmokmdjaaGreat
namespace Go.Proofs.YtcgfilmmokmdjaaGreat
theorem qe {d : List It} {s m e : Nat} (h1 : s ≤ m) (h2 : m ≤ e) (h3 : e ≤ d.length) {i : Nat} (hi : i < s ∨ e ≤ i) : d_ (eN d s m e) i = d_ d i:=by
 have l1 : (d.take s).length = s:=by rw [ay]; omega
 have l2 : (jr d m e ++ jr d s m).length = e - s:=by rw [ax,yq h3,yq (by omega)]; omega
 unfold eN;rcases hi with hi | hi
 ·
  rw [a_,xI (by omega),wn hi]
 rw [zx (by rw [ax,l1,l2]; omega),ax,l1,l2,xo]
 congr 1; omega
theorem wv {d : List It} {s m e : Nat} (h1 : s ≤ m) (h2 : m ≤ e) (h3 : e ≤ d.length) : (eN d s m e).length = d.length:=by
 have l1 : (d.take s).length = s:=by rw [ay]; omega
 unfold eN;rw [ax,ax,ax,l1,yq h3,yq (by omega),aP]; omega
theorem kt {d : List It} {s e : Nat} (h1 : s ≤ e) : eN d s e e = d ∧ eN d s s e = d:=by
 have e0 : ∀ x,jr d x x = []:=fun x => by unfold jr; rw [Nat.sub_self,List.take_zero]
 have p:=parts (d:=d) h1
 constructor <;> · unfold eN; rw [e0]; simpa using p.symm
theorem zIb {d : List It} {a k : Nat} (h1 : a ≤ k) (h2 : k + 2 ≤ d.length) : tp (eN d a (a + 1) (k + 1)) k (k + 1) = eN d a (a + 1) (k + 2):=by
 have hl:=wv (d:=d) (s:=a) (m:=a + 1) (e:=k + 1) (by omega) (by omega) (by omega);have hl2:=wv (d:=d) (s:=a) (m:=a + 1) (e:=k + 2) (by omega) (by omega) (by omega);refine TD (by rw [uX,hl,hl2]) fun i _ => ?_
 rw [ke (by rw [hl]; omega) (by rw [hl]; omega)]
 by_cases e1 : i = k + 1
 ·
  rw [ag e1,vJ (by omega) (by omega) (by omega) (by omega) (by omega),vJ (by omega) (by omega) (by omega) (by omega) (by omega)]
  congr 1; omega
 rw [ah e1]
 by_cases e2 : i = k
 ·
  rw [ag e2,qe (by omega) (by omega) (by omega) (by omega),vK (by omega) (by omega) (by omega) (by omega) (by omega)]
  congr 1; omega
 rw [ah e2]
 by_cases e3 : i < a ∨ k + 2 ≤ i
 ·
  rw [qe (by omega) (by omega) (by omega) (by omega),qe (by omega) (by omega) (by omega) (by omega)]
 rw [vK (by omega) (by omega) (by omega) (by omega) (by omega),vK (by omega) (by omega) (by omega) (by omega) (by omega)]
theorem zLx {d : List It} {k m : Nat} (h1 : k + 1 ≤ m) (h2 : m + 1 ≤ d.length) : tp (eN d (k + 1) m (m + 1)) (k + 1) k = eN d k m (m + 1):=by
 have hl:=wv (d:=d) (s:=k + 1) (m:=m) (e:=m + 1) (by omega) (by omega) (by omega);have hl2:=wv (d:=d) (s:=k) (m:=m) (e:=m + 1) (by omega) (by omega) (by omega);refine TD (by rw [uX,hl,hl2]) fun i _ => ?_
 rw [ke (by rw [hl]; omega) (by rw [hl]; omega)]
 by_cases e1 : i = k
 ·
  rw [ag e1,vK (by omega) (by omega) (by omega) (by omega) (by omega),vK (by omega) (by omega) (by omega) (by omega) (by omega)]
  congr 1; omega
 rw [ah e1]
 by_cases e2 : i = k + 1
 ·
  rw [ag e2,qe (by omega) (by omega) (by omega) (by omega),vJ (by omega) (by omega) (by omega) (by omega) (by omega)]
  congr 1; omega
 rw [ah e2]
 by_cases e3 : i < k ∨ m + 1 ≤ i
 ·
  rw [qe (by omega) (by omega) (by omega) (by omega),qe (by omega) (by omega) (by omega) (by omega)]
 rw [vJ (by omega) (by omega) (by omega) (by omega) (by omega),vJ (by omega) (by omega) (by omega) (by omega) (by omega)]
 congr 1; omega
theorem zKs {d : List It} {a i b : Nat} (h1 : a + 1 ≤ i) (h2 : i ≤ b) (hb : b ≤ d.length) (nb : iK d (a + 1) b)
  (H1 : ∀ j,a + 1 ≤ j → j < i → (d_ d j).key < (d_ d a).key) (H2 : ∀ j,i ≤ j → j < b → (d_ d a).key ≤ (d_ d j).key) :
  Moved d (eN d a (a + 1) i) a b ∧ iK (eN d a (a + 1) i) a b:=by
 have R:=VM (d:=d) (a:=a) (s:=a) (m:=a + 1) (e:=i) (b:=b) (c:=a + (i - (a + 1))) (ai _) (by omega) h1 h2 hb rfl (fun x y x1 xy y1 => by omega) nb
  (fun x x1 x2 => by omega) (fun x x1 x2 j j1 j2 => (show x = a by omega) ▸ H1 j j1 j2)
 obtain ⟨m,n1,n2,n3,n4,hx⟩:=R;refine ⟨m,fun x y x1 xy y2 => ?_⟩;rcases bD x (a + (i - (a + 1))) with xc | xc
 ·
  rcases bD y (a + (i - (a + 1))) with yc | yc
  ·
   exact n2 x y x1 xy yc
  exact hx x x1 xc y yc y2
 have hxi : ∀ z,i ≤ z → d_ (eN d a (a + 1) i) z = d_ d z:=fun z hz => (qp (by omega) h1 (ak h2 hb) (fun p p1 p2 q q1 q2 => by
  obtain rfl : p = a:=by omega
  have:=H1 q q1 q2; omega)).out (Or.inr hz)
 rcases bD x i with xi | xi
 ·
  rcases bD y i with yi | yi
  ·
   omega
  rw [hxi y yi,vJ (by omega) h1 (ak h2 hb) xc xi];have : a + (x - (a + (i - (a + 1)))) = a:=by omega
  rw [this]; exact H2 y yi y2
 exact n4 x y xi xy y2
theorem zJL {d : List It} {a i m : Nat} (h1 : a ≤ i) (h2 : i ≤ m) (hb : m + 1 ≤ d.length) (na : iK d a m)
  (H1 : ∀ j,a ≤ j → j < i → (d_ d j).key ≤ (d_ d m).key) (H2 : ∀ j,i ≤ j → j < m → (d_ d m).key < (d_ d j).key) :
  Moved d (eN d i m (m + 1)) a (m + 1) ∧ iK (eN d i m (m + 1)) a (m + 1):=by
 have R:=VM (d:=d) (a:=a) (s:=i) (m:=m) (e:=m + 1) (b:=m + 1) (c:=i + 1) h1 h2 (by omega) (ai _) hb (by omega) na (fun x y x1 xy y1 => by omega)
  (fun x x1 x2 j j1 j2 => by omega) (fun x x1 x2 j j1 j2 => (show j = m by omega) ▸ H2 x x1 x2)
 obtain ⟨mv,n1,n2,n3,n4,hx⟩:=R;refine ⟨mv,fun x y x1 xy y2 => ?_⟩;rcases bD x (i + 1) with xc | xc
 ·
  rcases bD y (i + 1) with yc | yc
  ·
   rcases bD y i with yi | yi
   ·
    exact n1 x y x1 xy yi
   obtain rfl : y = i:=by omega
   have ho : d_ (eN d y m (m + 1)) x = d_ d x:=(qp h2 (by omega) hb (fun p p1 p2 q q1 q2 => by
    obtain rfl : q = m:=by omega
    have:=H2 p p1 p2; omega)).out (Or.inl (by omega))
   rw [ho,vK h2 (by omega) hb (ai _) (by omega)];have : m + (y - y) = m:=by omega
   rw [this]; exact H1 x x1 (by omega)
  exact hx x x1 xc y yc y2
 exact n3 x y xc xy y2
structure K1 (d : List It) (a m b s : Nat) : Prop where
 lo : (if m > (a + b) / 2 then (a + b) / 2 + m - b else a) ≤ s
 hi : s ≤ (if m > (a + b) / 2 then (a + b) / 2 else m)
 l : (if m > (a + b) / 2 then (a + b) / 2 + m - b else a) < s → (d_ d (s - 1)).key ≤ (d_ d ((a + b) / 2 + m - s)).key
 r : s < (if m > (a + b) / 2 then (a + b) / 2 else m) → (d_ d ((a + b) / 2 + m - 1 - s)).key < (d_ d s).key
theorem K1.ends {d : List It} {a m b s : Nat} (h : K1 d a m b s) : a ≤ s ∧ s ≤ m ∧ s ≤ (a + b) / 2 ∧ m ≤ (a + b) / 2 + m - s ∧ (a + b) / 2 + m - s ≤ b:=by
 have:=h.lo;have:=h.hi
 split at this <;> split at * <;> omega
theorem zK1 {d : List It} {a m b s : Nat} (h : K1 d a m b s) (h1 : a < m) (h2 : m < b) (hb : b ≤ d.length) (na : iK d a m) (nb : iK d m b) :
  Moved d (eN d s m ((a + b) / 2 + m - s)) a b ∧ iK (eN d s m ((a + b) / 2 + m - s)) a s ∧ iK (eN d s m ((a + b) / 2 + m - s)) s ((a + b) / 2) ∧ iK (eN d s m ((a + b) / 2 + m - s)) ((a + b) / 2) ((a + b) / 2 + m - s) ∧ iK (eN d s m ((a + b) / 2 + m - s)) ((a + b) / 2 + m - s) b ∧
  ∀ i,a ≤ i → i < (a + b) / 2 → ∀ j,(a + b) / 2 ≤ j → j < b → (d_ (eN d s m ((a + b) / 2 + m - s)) i).key ≤ (d_ (eN d s m ((a + b) / 2 + m - s)) j).key:=by
 obtain ⟨e1,e2,e3,e4,e5⟩:=h.ends;have nle : ∀ {x y},a ≤ x → x ≤ y → y < m → (d_ d x).key ≤ (d_ d y).key:=fun {x y} x1 xy y1 => by
  rcases bD x y with q | q
  ·
   exact na x y x1 q y1
  rw [show x = y by omega]; exact cq _
 have Qx : ∀ {x y},m ≤ x → x ≤ y → y < b → (d_ d x).key ≤ (d_ d y).key:=fun {x y} x1 xy y1 => by
  rcases bD x y with q | q
  ·
   exact nb x y x1 q y1
  rw [show x = y by omega]; exact cq _
 refine VM e1 e2 e4 e5 hb (by omega) na nb (fun i i1 i2 j j1 j2 => ?_) (fun i i1 i2 j j1 j2 => ?_)
 ·
  have hl:=h.l
  by_cases q : (if m > (a + b) / 2 then (a + b) / 2 + m - b else a) < s
  ·
   exact Int.le_trans (nle i1 (show i ≤ s - 1 by omega) (by omega)) (Int.le_trans (hl q) (Qx e4 j1 j2))
  exfalso; split at q <;> omega
 have hr:=h.r
 by_cases q : s < (if m > (a + b) / 2 then (a + b) / 2 else m)
 ·
  exact Int.lt_of_le_of_lt (Qx j1 (show j ≤ (a + b) / 2 + m - 1 - s by omega) (by omega)) (Int.lt_of_lt_of_le (hr q) (nle e1 i1 i2))
 exfalso; split at q <;> omega
def ud : List It → List It
 | [] => []
 | [x] => [x]
 | x :: y :: r => if y.key = x.key then ud (y :: r) else x :: ud (y :: r)
def VO (d : List It) : Prop:=d.Pairwise fun a b => a.key ≤ b.key
theorem zL1 {d : List It} (h : iK d 0 d.length) : VO d:=by
 refine List.pairwise_iff_getElem.2 fun i j hi hj hij => ?_
 rw [vV hi,vV hj];exact h i j (aq _) hij hj
theorem zGd (k : Int) : fJ [] k = none:=rfl
theorem zCz (x : It) {f : List It} (h : f ≠ []) : (x :: f).getLast? = f.getLast?:=by
 cases f with
 | nil => exact absurd rfl h
 | cons y f => rw [List.getLast?_cons_cons]
theorem zE5 : ∀ (d : List It),VO d → ∀ k : Int,fJ (ud d) k = (d.filter fun y => y.key == k).getLast?
 | [],_,k => rfl
 | [x],_,k => by
  unfold ud;rw [zm,cn]
  by_cases h : x.key = k
  ·
   rw [ag h,ag (by simp [h])]; rfl
  rw [ah h,ah (by simp [h])]; rfl
 | x :: y :: r,hp,k => by
  obtain ⟨h1,h2⟩:=List.pairwise_cons.1 hp;have ih:=zE5 (y :: r) h2 k;unfold ud;rw [cn]
  by_cases e : y.key = x.key
  ·
   rw [ag e,ih]
   by_cases hk : x.key = k
   ·
    rw [ag (by simp [hk]),zCz];intro h0;have : y ∈ (y :: r).filter fun y => y.key == k:=List.mem_filter.2 ⟨by simp,by simp; omega⟩
    rw [h0] at this; cases this
   rw [ah (by simp [hk])]
  rw [ah e,zm]
  by_cases hk : x.key = k
  ·
   rw [ag hk,ag (by simp [hk])];have h0 : (y :: r).filter (fun y => y.key == k) = []:=by
    rw [List.filter_eq_nil_iff];intro z hz;have hxy:=h1 y (by simp);have hyz : y.key ≤ z.key:=by
     rcases List.mem_cons.1 hz with rfl | hz
     ·
      exact cq _
     exact (List.pairwise_cons.1 h2).1 z hz
    simp; omega
   rw [h0]; rfl
  rw [ah hk,ah (by simp [hk]),ih]
theorem VP : ∀ (d : List It),∀ z ∈ ud d,z ∈ d
 | [],_,h => h
 | [x],z,h => h
 | x :: y :: r,z,h => by
  unfold ud at h
  split at h
  ·
   exact List.mem_cons_of_mem _ (VP (y :: r) z h)
  rcases List.mem_cons.1 h with rfl | h
  ·
   simp
  exact List.mem_cons_of_mem _ (VP (y :: r) z h)
theorem zEL : ∀ (d : List It),VO d → (ud d).Pairwise fun a b => a.key < b.key
 | [],_ => .nil
 | [x],_ => .cons (fun _ h => by cases h) .nil
 | x :: y :: r,hp => by
  obtain ⟨h1,h2⟩:=List.pairwise_cons.1 hp;have ih:=zEL (y :: r) h2;unfold ud
  split
  ·
   exact ih
  rename_i e;refine .cons (fun z hz => ?_) ih;have hz:=VP _ z hz;have hxy:=h1 y (by simp);rcases List.mem_cons.1 hz with rfl | hz
  ·
   omega
  have:=(List.pairwise_cons.1 h2).1 z hz; omega
theorem xe {l : List It} {k : Int} {x : It} (h : fJ l k = some x) : x ∈ l ∧ x.key = k:=by
 unfold fJ at h;exact ⟨List.mem_of_find?_eq_some h,by simpa using List.find?_some h⟩
theorem vM {l : List It} {k : Int} (h : ∀ x ∈ l,x.key ≠ k) : fJ l k = none:=by
 unfold fJ;rw [List.find?_eq_none];intro x hx; simpa using h x hx
theorem qY : ∀ (u v : List It),(u.Pairwise fun a b => a.key < b.key) → (v.Pairwise fun a b => a.key < b.key) → (∀ k,fJ u k = fJ v k) → u = v
 | [],[],_,_,_ => rfl
 | [],y :: v,_,_,h => by
  have:=h y.key;rw [zGd,zm,ag rfl] at this; cases this
 | x :: u,[],_,_,h => by
  have:=h x.key;rw [zGd,zm,ag rfl] at this; cases this
 | x :: u,y :: v,hu,hv,h => by
  obtain ⟨u1,u2⟩:=List.pairwise_cons.1 hu;obtain ⟨v1,v2⟩:=List.pairwise_cons.1 hv;have hx:=h x.key;rw [zm,ag rfl] at hx;have hy:=h y.key;rw [zm (y:=y),ag rfl] at hy;have m1:=xe hx.symm;have m2:=xe hy;have e : x.key = y.key:=by
   rcases List.mem_cons.1 m1.1 with e | m1
   ·
    rw [e]
   have:=v1 _ m1;rcases List.mem_cons.1 m2.1 with e | m2
   ·
    rw [e]
   have:=u1 _ m2; omega
  have exy : x = y:=by
   rw [zm,ag e.symm] at hx;exact Option.some.inj hx
  subst exy
  congr 1
  refine qY u v u2 v2 fun k => ?_
  by_cases hk : x.key = k
  ·
   rw [vM fun z hz => by have:=u1 z hz; omega,vM fun z hz => by have:=v1 z hz; omega]
  have:=h k
  rwa [zm,zm,ah hk,ah hk] at this
theorem zCv : ∀ (l out : List It) (k : Int),fJ (l.foldl ins out) k = match (l.filter fun y => y.key == k).getLast? with | some x => some x | none => fJ out k
 | [],out,k => rfl
 | x :: l,out,k => by
  rw [cG,zCv l (ins out x) k,cn]
  by_cases h : x.key = k
  ·
   rw [ag (by simp [h])]
   by_cases h0 : l.filter (fun y => y.key == k) = []
   ·
    rw [h0]
    show fJ (ins out x) k = some x
    rw [← h]; exact vX x out
   rw [zCz x h0]
   cases e : (l.filter fun y => y.key == k).getLast? with
   | none => rw [List.getLast?_eq_none_iff] at e; exact absurd e h0
   | some y => rfl
  rw [ah (by simp [h]),vH x k (aR h)]
theorem VQ (l : List It) (k : Int) : fJ (fE l) k = (l.filter fun y => y.key == k).getLast?:=by
 unfold fE;rw [zCv]
 cases (l.filter fun y => y.key == k).getLast? <;> rfl
theorem zKg {l d : List It} (h : B_ l d) (hn : iK d 0 d.length) : ud d = fE l:=by
 have hp:=zL1 hn;refine qY _ _ (zEL d hp) (tU ((xh _).2 (vF l))) fun k => ?_
 rw [zE5 d hp,VQ,h k]
theorem vh {d : List It} {i : Nat} (h : i < d.length) : d.drop i = d_ d i :: d.drop (i + 1):=by
 rw [dC h,vV h]
theorem zI7 {d : List It} {i : Nat} (h : i + 1 = d.length) : ud (d.drop i) = [d_ d i] ++ ud (d.drop (i + 1)):=by
 rw [vh (by omega),List.drop_eq_nil_of_le (by omega)]; rfl
theorem zIW {d : List It} {i : Nat} (h : i + 1 < d.length) (hk : (d_ d (i + 1)).key ≠ (d_ d i).key) : ud (d.drop i) = [d_ d i] ++ ud (d.drop (i + 1)):=by
 rw [vh (show i < d.length by omega),vh h]
 conv => lhs; unfold ud
 rw [ah hk]; rfl
theorem zHd {d : List It} {i : Nat} (h : i + 1 < d.length) (hk : (d_ d (i + 1)).key = (d_ d i).key) : ud (d.drop i) = ud (d.drop (i + 1)):=by
 rw [vh (show i < d.length by omega),vh h]
 conv => lhs; unfold ud
 rw [ag hk]
/-! ### VR -/
def CM (d : List It) (bs lo hi : Nat) : Prop:=∀ k i j,lo ≤ i → i < j → j < hi → k * bs ≤ i → j < k * bs + bs → (d_ d i).key ≤ (d_ d j).key
theorem CM.nd {d : List It} {bs lo hi k a b : Nat} (h : CM d bs lo hi) (h1 : lo ≤ a) (h2 : b ≤ hi) (h3 : k * bs ≤ a) (h4 : b ≤ k * bs + bs) : iK d a b:=fun i j i1 ij j1 => h k i j (by omega) ij (by omega) (by omega) (by omega)
theorem CM.sub {d : List It} {bs lo hi lo' hi' : Nat} (h : CM d bs lo hi) (h1 : lo ≤ lo') (h2 : hi' ≤ hi) : CM d bs lo' hi':=fun k i j i1 ij j1 a b => h k i j (by omega) ij (by omega) a b
theorem CM.none (d : List It) (bs lo : Nat) : CM d bs lo lo:=fun k i j i1 ij j1 => by omega
theorem CM.keep {d d' : List It} {bs lo hi a b : Nat} (h : CM d bs lo hi) (m : Moved d d' a b) (hh : hi ≤ a ∨ b ≤ lo) : CM d' bs lo hi:=fun k i j i1 ij j1 p q => by
 rw [m.out (by omega),m.out (by omega)]; exact h k i j i1 ij j1 p q
theorem CM.more {d : List It} {bs a b k : Nat} (h : CM d bs 0 a) (hk : a = k * bs) (n : iK d a b) : CM d bs 0 b:=fun c i j i1 ij j1 p q => by
 by_cases e : j < a
 ·
  exact h c i j i1 ij e p q
 have hc : k ≤ c:=by
  rcases bD c k with hc | hc
  ·
   have:=aV bs (show c + 1 ≤ k by omega);rw [cO] at this; omega
  exact hc
 have:=aV bs hc;exact n i j (by omega) ij j1
theorem CM.whole {d : List It} {bs n : Nat} (h : CM d bs 0 n) (hb : n ≤ bs) : iK d 0 n:=fun i j i1 ij j1 => h 0 i j i1 ij j1 (by omega) (by omega)
theorem kM (u v : List It) : fE (u ++ v) = v.foldl ins (fE u):=by unfold fE; rw [dy]
theorem zLP (l : List It) : Ty [] l [] = fE l:=by
 unfold Ty;rw [zGx]
 show fE ([] ++ fE l) = _
 rw [bV,yQ (vF l)]
theorem qE (s : List It) (x : It) (k : Int) : fJ (ins s x) k = if x.key = k then some x else fJ s k:=by
 by_cases h : x.key = k
 ·
  rw [ag h,← h]; exact vX x s
 rw [ah h]; exact vH x k (aR h) s
theorem VT (s : List It) (key k : Int) : fJ (gB s key) k = if k = key then none else fJ s k:=by
 by_cases h : k = key
 ·
  rw [ag h,h]; exact k8 s key
 rw [ah h]; exact ug key k h s
theorem zKV (u : List It) (x : It) : fE (u ++ [x]) = ins (fE u) x:=by rw [kM]; rfl
def zu (s : List It) : Nat:=(s.map fun x => eP x.size.toNat).sum
theorem xM (s t : List It) : zu (s ++ t) = zu s + zu t:=by simp [zu]
theorem qP (s : List It) : zu s ≤ s.length * 4127:=by
 induction s with
 | nil => exact ai _
 | cons x l ih =>
  have:=xt x.size.toNat
  show eP x.size.toNat + zu l ≤ _
  rw [aW]; omega
theorem VU : ∀ (u v : List It) (x : It),(∀ z ∈ u,z.key < x.key) → ins (u ++ v) x = u ++ ins v x
 | [],_,_,_ => rfl
 | y :: u,v,x,h => by
  show ins (y :: (u ++ v)) x = y :: (u ++ ins v x)
  simp only [ins];rw [ag (h y (by simp)),VU u v x (fun z hz => h z (by simp [hz]))]
theorem zEq : ∀ (u v : List It) (x : It),(∃ z ∈ u,x.key ≤ z.key) → ins (u ++ v) x = ins u x ++ v
 | [],_,_,h => by obtain ⟨z,hz,_⟩:=h; cases hz
 | y :: u,v,x,h => by
  show ins (y :: (u ++ v)) x = ins (y :: u) x ++ v
  simp only [ins]
  split
  ·
   rename_i hlt
   rw [zEq u v x (by
    obtain ⟨z,hz,hx⟩:=h
    rcases List.mem_cons.1 hz with rfl | hz
    ·
     omega
    exact ⟨z,hz,hx⟩)]
   rfl
  split <;> rfl
theorem zJg (u : List It) (y : It) (key : Int) : gB (u ++ [y]) key = gB u key ++ if y.key = key then [] else [y]:=by
 unfold gB;rw [cQ]
 by_cases h : y.key = key
 ·
  rw [ag h]; simp [h]
 rw [ah h]; simp [h]
structure gK (s : List It) (x : It) (i : Nat) (done : Bool) (out : List It) : Prop where
 no : done = false → out = s.take i ∧ ∀ z ∈ s.take i,z.key < x.key
 yes : done = true → out = ins (s.take i) x ∧ ∃ j,j < i ∧ x.key ≤ (d_ s j).key
theorem gK.start (s : List It) (x : It) : gK s x 0 false []:=⟨fun _ => ⟨rfl,fun z hz => by cases hz⟩,fun h => by cases h⟩
theorem gK.low {s out : List It} {x : It} {i : Nat} (h : gK s x i false out) (hi : i < s.length) (hk : (d_ s i).key < x.key) : gK s x (i + 1) false (out ++ [d_ s i]):=by
 obtain ⟨h1,h2⟩:=h.no rfl;refine ⟨fun _ => ⟨by rw [xH hi,h1],fun z hz => ?_⟩,fun h => by cases h⟩;rw [xH hi] at hz;rcases List.mem_append.1 hz with hz | hz
 ·
  exact h2 z hz
 rw [List.mem_singleton.1 hz]; exact hk
theorem gK.here {s out : List It} {x : It} {i : Nat} (h : gK s x i false out) (hi : i < s.length) (hk : (d_ s i).key = x.key) : gK s x (i + 1) true (out ++ [x]):=by
 obtain ⟨h1,h2⟩:=h.no rfl;refine ⟨(fun h => by cases h),fun _ => ⟨?_,i,by omega,by omega⟩⟩;rw [xH hi,VU _ _ _ h2,h1];simp only [ins];rw [ah (by omega),ag hk]
theorem gK.ahead {s out : List It} {x : It} {i : Nat} (h : gK s x i false out) (hi : i < s.length) (hk : x.key < (d_ s i).key) : gK s x (i + 1) true (out ++ [x] ++ [d_ s i]):=by
 obtain ⟨h1,h2⟩:=h.no rfl;refine ⟨(fun h => by cases h),fun _ => ⟨?_,i,by omega,by omega⟩⟩;rw [xH hi,VU _ _ _ h2,h1];simp only [ins];rw [ah (by omega),ah (by omega),a_]; rfl
theorem gK.gt {s out : List It} {x : It} {i : Nat} (h : gK s x i true out) (ha : jX s) (hi : i < s.length) : x.key < (d_ s i).key:=by
 obtain ⟨_,j,hj,hx⟩:=h.yes rfl;exact Int.lt_of_le_of_lt hx (ha.mono hj hi)
theorem gK.more {s out : List It} {x : It} {i : Nat} (h : gK s x i true out) (hi : i < s.length) : gK s x (i + 1) true (out ++ [d_ s i]):=by
 obtain ⟨h1,j,hj,hx⟩:=h.yes rfl;refine ⟨(fun h => by cases h),fun _ => ⟨?_,j,by omega,hx⟩⟩;rw [xH hi,zEq _ _ _ ⟨d_ s j,?_,hx⟩,h1];have hm : d_ (s.take i) j ∈ s.take i:=qV (by rw [ay]; omega)
 rwa [wn hj] at hm
theorem gK.VW {s out : List It} {x : It} (h : gK s x s.length true out) : out = ins s x:=by
 have:=(h.yes rfl).1
 rwa [cm] at this
theorem gK.VX {s out : List It} {x : It} (h : gK s x s.length false out) : out ++ [x] = ins s x:=by
 obtain ⟨h1,h2⟩:=h.no rfl;rw [cm] at h1 h2;rw [Vw x s h2,h1]
theorem gK.len {s out : List It} {x : It} {i : Nat} {b : Bool} (h : gK s x i b out) : out.length ≤ i + 1:=by
 cases b with
 | false => rw [(h.no rfl).1,ay]; omega
 | true =>
  have:=vv x (s.take i);rw [(h.yes rfl).1];have h2 : (s.take i).length ≤ i:=by rw [ay]; omega
  omega
theorem zLG {l : List It} {key : Int} {r : Nat} (h : r < l.length) (hk : (d_ l r).key = key) (hn : ∀ j,r < j → j < l.length → (d_ l j).key ≠ key) : fJ (fE l) key = some (d_ l r):=by
 rw [VQ];have e : l = l.take r ++ d_ l r :: l.drop (r + 1):=by rw [← vh h,bN]
 have h0 : (l.drop (r + 1)).filter (fun y => y.key == key) = []:=by
  rw [List.filter_eq_nil_iff];intro y hy;obtain ⟨j,hj,rfl⟩:=uZ hy;rw [xo];rw [aP] at hj
  simpa using hn (r + 1 + j) (by omega) (by omega)
 conv => lhs; rw [e]
 rw [cQ,cn,ag (by simp [hk]),h0,List.getLast?_append]
 rfl
theorem zIB {l : List It} {key : Int} (hn : ∀ j,j < l.length → (d_ l j).key ≠ key) : fJ (fE l) key = none:=by
 rw [VQ];have h0 : l.filter (fun y => y.key == key) = []:=by
  rw [List.filter_eq_nil_iff];intro y hy;obtain ⟨j,hj,rfl⟩:=uZ hy
  simpa using hn j hj
 rw [h0]; rfl
def zMo (s v : List It) : List It:=v.foldl ins s
end Go.Proofs.YtcgfilmmokmdjaaGreat
