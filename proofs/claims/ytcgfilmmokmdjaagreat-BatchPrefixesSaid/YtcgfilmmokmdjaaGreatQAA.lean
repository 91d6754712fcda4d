/- A part of the walk. -/
import Derived.Test.YtcgfilmmokmdjaaGreatRows
import Derived.Test.YtcgfilmmokmdjaaGreatBase
import Derived.BigQuiet
import Derived.Deep.QuietTactic
import Derived.Deep.RegionHeld3
import Derived.Laws.BitsAllLaws
import Derived.Laws.OwnMore
import Derived.Deep.RegionWith
import Derived.Deep.RegionLaw
import Derived.Lib.OwnKind
import Derived.OneCell
import Derived.Laws.EntriesVeiled
import Derived.Laws.Bits128
set_option linter.all false
set_option maxRecDepth 100000
set_option maxHeartbeats 32000000
namespace Go.Proofs.YtcgfilmmokmdjaaGreat
structure It where
 key : Int
 ck : Int
 off : Int
 size : Int
 deriving DecidableEq
def A8 (x : It) : Prop:=16 ≤ x.off ∧ x.off ≤ 1048576 ∧ x.off % 8 = 0 ∧ 0 ≤ x.size ∧ x.size ≤ 4096
instance (x : It) : Decidable (A8 x):=by unfold A8; exact inferInstance
def okB (x : It) : Bool:=decide (A8 x)
def fM : It:=⟨0,0,0,0⟩
instance : Inhabited It:=⟨fM⟩
def d_ (l : List It) (j : Nat) : It:=l.getD j fM
theorem qV {l : List It} {j : Nat} (h : j < l.length) : d_ l j ∈ l:=by
 unfold d_;rw [aw,aB h]; exact bM h
theorem uZ {l : List It} {x : It} (h : x ∈ l) : ∃ j,j < l.length ∧ d_ l j = x:=by
 obtain ⟨j,hj,e⟩:=List.mem_iff_getElem.1 h;exact ⟨j,hj,by unfold d_; rw [aw,aB hj,bw,e]⟩
theorem xH {l : List It} {j : Nat} (h : j < l.length) : l.take (j + 1) = l.take j ++ [d_ l j]:=by
 rw [List.take_succ_eq_append_getElem h]
 congr
 unfold d_;rw [aw,aB h]; rfl
theorem xo (l : List It) (k i : Nat) : d_ (l.drop k) i = d_ l (k + i):=by
 unfold d_;rw [aw,cL,← aw]
theorem wn {l : List It} {k i : Nat} (h : i < k) : d_ (l.take k) i = d_ l i:=by
 unfold d_;rw [aw,cI,ag h,← aw]
theorem uc : ∀ (a : List It) (i : Nat) (x : It),i < a.length → (a.set i x).take (i + 1) = a.take i ++ [x]
 | [],i,x,h => by simp at h
 | y :: r,0,x,_ => rfl
 | y :: r,i + 1,x,h => by
  have:=uc r i x (by simpa using h);simp only [aK,List.take_succ_cons,List.cons_append];rw [this]
def mA (l : List It) (k : Nat) : Prop:=∀ j,j + 1 < k → (d_ l j).key < (d_ l (j + 1)).key
def jX (l : List It) : Prop:=mA l l.length
def G_ : List It → Bool
 | [] => true
 | [_] => true
 | x :: y :: r => decide (x.key < y.key) && G_ (y :: r)
theorem tF : ∀ l : List It,G_ l = true ↔ jX l
 | [] => ⟨fun _ _ h => by simp at h,fun _ => rfl⟩
 | [_] => ⟨fun _ _ h => by simp at h,fun _ => rfl⟩
 | x :: y :: r => by
  unfold G_;rw [aO,aS,tF (y :: r)]
  constructor
  ·
   rintro ⟨h1,h2⟩ j hj
   cases j with
   | zero => exact h1
   | succ j => exact h2 j (by simpa using hj)
  intro h;exact ⟨h 0 (by simp),fun j hj => h (j + 1) (by simpa using hj)⟩
theorem zBg {l : List It} {j : Nat} (h : j + 1 < l.length) (h' : (d_ l (j + 1)).key ≤ (d_ l j).key) : G_ l = false:=by
 cases e : G_ l with
 | false => rfl
 | true => exact absurd ((tF l).1 e j h) (by omega)
theorem mA.succ {l : List It} {k : Nat} (h : mA l k) (h' : ∀ j,k = j + 1 → (d_ l j).key < (d_ l (j + 1)).key) : mA l (k + 1):=fun j hj => by
 by_cases e : k = j + 1
 ·
  exact h' j e
 exact h j (by omega)
theorem jX.lt {l : List It} (h : jX l) : ∀ d i,i + d + 1 < l.length → (d_ l i).key < (d_ l (i + d + 1)).key
 | 0,i,hi => h i hi
 | d + 1,i,hi => by
  have h1:=h.lt d i (by omega);have h2:=h (i + d + 1) (by omega);have e : i + (d + 1) + 1 = i + d + 1 + 1:=by omega
  rw [e]; omega
theorem jX.mono {l : List It} (h : jX l) {i j : Nat} (hij : i < j) (hj : j < l.length) : (d_ l i).key < (d_ l j).key:=by
 have:=h.lt (j - i - 1) i (by omega)
 rwa [show i + (j - i - 1) + 1 = j by omega] at this
def xx (l : List It) : Bool:=G_ l && l.all okB
theorem kj {l : List It} {p : It → Bool} (h : ∀ j,j < l.length → p (d_ l j) = true) : l.all p = true:=by
 rw [dJ];intro x hx;obtain ⟨j,hj,rfl⟩:=uZ hx;exact h j hj
theorem qS {l : List It} {p : It → Bool} {j : Nat} (h : j < l.length) (h' : p (d_ l j) = false) : l.all p = false:=by
 cases e : l.all p with
 | false => rfl
 | true => rw [dJ] at e; rw [e _ (qV h)] at h'; cases h'
theorem zIO {l : List It} (h1 : jX l) (h2 : ∀ j,j < l.length → okB (d_ l j) = true) : xx l = true:=by
 unfold xx; rw [(tF l).2 h1,kj h2]; rfl
theorem zLM {l : List It} {j : Nat} (h : j < l.length) (h' : okB (d_ l j) = false) : xx l = false:=by
 unfold xx; rw [qS h h',Bool.and_false]
theorem zEj {l : List It} (h : G_ l = false) : xx l = false:=by unfold xx; rw [h]; rfl
theorem un {l : List It} : xx l = true ↔ jX l ∧ ∀ x ∈ l,A8 x:=by
 unfold xx;rw [aO,tF,dJ];exact ⟨fun ⟨a,b⟩ => ⟨a,fun x hx => aX (b x hx)⟩,fun ⟨a,b⟩ => ⟨a,fun x hx => aD (b x hx)⟩⟩
end Go.Proofs.YtcgfilmmokmdjaaGreat
namespace Go.Proofs.YtcgfilmmokmdjaaGreat
open Go.RowKit
def g_ (x : It) : List Value:=[.int .u64 x.key,.int .u32 x.ck,.int .i64 x.off,.int .i64 x.size]
abbrev jS (x : It) : Value:=.agg #[.int .u64 x.key,.int .u32 x.ck,.int .i64 x.off,.int .i64 x.size]
abbrev i_ (w : World) (v : Value) (l : List It) : Prop:=ix 4 g_ w v l
theorem ws (x : It) : (g_ x).length = 4:=rfl
theorem zHy (k c o s : Int) (w : World) :
  Calls Tryz.prog 141 #[.agg #[.int .u64 k,.int .u32 c,.int .i64 o,.int .i64 s]] w fun e w' => e = .returned (.bool (okB ⟨k,c,o,s⟩)) ∧ Below w.heap.size w w':=by
 have HT:=zh (show A8 ⟨k,c,o,s⟩ → okB ⟨k,c,o,s⟩ = true from fun h => aD h);have HF:=zh (show ¬ A8 ⟨k,c,o,s⟩ → okB ⟨k,c,o,s⟩ = false from fun h => aC h)
 go_enter Tryz.func141,Tryz.ntmps141
 go_wp2_with fail
 ·
  go_ret;refine ⟨zH ?_,(aj _ _).alloc (ai _) _⟩
  by_cases hs : s ≤ 4096
  ·
   rw [HT.out ⟨by assumption,by assumption,by assumption,by assumption,hs⟩]; exact aD hs
  rw [HF.out (fun h => hs h.2.2.2.2)]; exact aC hs
 all_goals
  go_ret;exact ⟨zH (HF.out (fun h => by have h1:=h.1; have h2:=h.2.1; have h3:=h.2.2.1; have h4:=h.2.2.2.1; simp only [] at h1 h2 h3 h4; first | contradiction | omega)).symm,(aj _ _).alloc (ai _) _⟩
theorem zAm (k c o s : Int) (w : World) :
  Calls Tryz.prog 127 #[.agg #[.int .u64 k,.int .u32 c,.int .i64 o,.int .i64 s]] w fun e w' => e = .returned (.bool (okB ⟨k,c,o,s⟩)) ∧ Below w.heap.size w w':=by
 have HT:=zh (show A8 ⟨k,c,o,s⟩ → okB ⟨k,c,o,s⟩ = true from fun h => aD h);have HF:=zh (show ¬ A8 ⟨k,c,o,s⟩ → okB ⟨k,c,o,s⟩ = false from fun h => aC h)
 go_enter Tryz.func127,Tryz.ntmps127
 go_wp2_with fail
 ·
  go_ret;refine ⟨zH ?_,(aj _ _).alloc (ai _) _⟩
  by_cases hs : s ≤ 4096
  ·
   rw [HT.out ⟨by assumption,by assumption,by assumption,by assumption,hs⟩]; exact aD hs
  rw [HF.out (fun h => hs h.2.2.2.2)]; exact aC hs
 all_goals
  go_ret;exact ⟨zH (HF.out (fun h => by have h1:=h.1; have h2:=h.2.1; have h3:=h.2.2.1; have h4:=h.2.2.2.1; simp only [] at h1 h2 h3 h4; first | contradiction | omega)).symm,(aj _ _).alloc (ai _) _⟩
theorem zDZ (k c o s : Int) (w : World) :
  Calls Tryz.prog 140 #[.agg #[.int .u64 k,.int .u32 c,.int .i64 o,.int .i64 s]] w fun e w' => e = .returned (.bool (!okB ⟨k,c,o,s⟩)) ∧ Below w.heap.size w w':=by
 have H:=zh fun w => zHy k c o s w
 generalize okB ⟨k,c,o,s⟩ = r at *
 go_enter Tryz.func140,Tryz.ntmps140
 go_wp2_with fail;refine (H.out _).mono ?_; rintro e w1 ⟨rfl,hb⟩;go_wp2_with fail;go_ret;exact ⟨rfl,zA ((aj _ _).alloc (ai _) _) hb⟩
theorem i_.below {w w' : World} {v : Value} {l : List It} (h : i_ w v l) (hb : Below w.heap.size w w') : i_ w' v l:=ix.below h hb
theorem i_.shape {w : World} {v : Value} {l : List It} (h : i_ w v l) : ∃ a cap,v = .slice a l.length cap ∧ l.length ≤ cap ∧ cap ≤ maxLen:=by
 obtain ⟨a,cap,h1,h2,h3,_⟩:=ix.shape h (by decide) fM;exact ⟨a,cap,h1,h2,h3⟩
theorem i_.at {w : World} {a : Option Addr} {n cap : Nat} {l : List It} (h : i_ w (.slice a n cap) l) {j : Nat} (hj : j < n) : ∃ b off,a = some ⟨b,off,none⟩ ∧
  w.cell? ⟨b,off + j * 4,none⟩ = some (.int .u64 (d_ l j).key) ∧ w.cell? ⟨b,off + j * 4 + 1,none⟩ = some (.int .u32 (d_ l j).ck) ∧
  w.cell? ⟨b,off + j * 4 + 2,none⟩ = some (.int .i64 (d_ l j).off) ∧ w.cell? ⟨b,off + j * 4 + 3,none⟩ = some (.int .i64 (d_ l j).size):=by
 obtain ⟨a',cap',e,h2,h3,_,h5⟩:=ix.shape h (by decide) fM;injection e with e1 e2 e3;subst e1 e2 e3;obtain ⟨b,off,e,hc⟩:=h5 (by omega);refine ⟨b,off,e,?_,?_,?_,?_⟩
 ·
  have:=hc j hj 0 _ rfl; rwa [bu] at this
 ·
  exact hc j hj 1 _ rfl
 ·
  exact hc j hj 2 _ rfl
 exact hc j hj 3 _ rfl
theorem MX : (Tryz.prog.info? 49).map (fun i => (i.zero,i.size,i.bytes)) = some (some (.agg #[.int .u64 0,.int .u32 0,.int .i64 0,.int .i64 0]),4,32):=by kernel_rfl
theorem yI : wK Tryz.prog 33 49 4 32:=by
 obtain ⟨i,h1,h2,h3,h4⟩:=b_ MX;exact ⟨Tryz.underlying33,by decide,i,_,h1,h2,h3,h4,rfl⟩
def zU (l : List It) : List Value:=l.flatMap g_
theorem xu (l : List It) (k : Nat) : zU (l.take k) = (zU l).take (k * 4):=zDF 4 g_ l ws k
theorem uq (l : List It) (k : Nat) : zU (l.drop k) = (zU l).drop (k * 4):=zDM 4 g_ l ws k
theorem zt (l m : List It) : zU (l ++ m) = zU l ++ zU m:=by simp [zU]
theorem xU (x : It) : zU [x] = g_ x:=by simp [zU]
theorem um (x : It) (l : List It) : zU (x :: l) = g_ x ++ zU l:=rfl
theorem yJ (l : List It) : (zU l).length = l.length * 4:=yV 4 g_ l (fun x _ => ws x)
theorem zp (l : List It) : ∀ u ∈ zU l,u.oneCell' = true:=by
 intro u hu;obtain ⟨x,_,hx⟩:=List.mem_flatMap.1 hu;simp [g_] at hx;rcases hx with rfl | rfl | rfl | rfl <;> rfl
theorem t6 {w : World} {v : Value} {l : List It} (h : i_ w v l) : Rd w 4 v l.length (zU l):=h.2
theorem yt {w : World} {v : Value} {l : List It} {n : Nat} (h : Rd w 4 v n (zU l)) : i_ w v l:=by
 have e : l.length = n:=by
  have:=h.1;rw [yJ] at this;omega
 refine ⟨fun x _ => ws x,?_⟩;rw [e]; exact h
abbrev fu (w : World) (base : Nat) (v : Value) (l : List It) : Prop:=w.ownsRow base 49 4 v l.length (zU l)
theorem yO {w : World} {base n : Nat} {v : Value} {l : List It} {xs : List Value} (h : w.ownsRow base 49 4 v n xs) (e : xs = zU l) : fu w base v l:=by
 subst e;have : l.length = n:=by have:=h.1; rw [yJ] at this; omega
 unfold fu; rw [this]; exact h
theorem fu.rd {w : World} {base : Nat} {v : Value} {l : List It} (h : fu w base v l) : i_ w v l:=yt (zw h)
theorem IC {n cap : Nat} (h : n ≤ cap) (h' : cap ≤ maxLen) : n ≤ 9223372036854775807:=by unfold maxLen at h'; omega
theorem Vr (v : Value) (l : List It) (w : World) (h : i_ w v l) :
  Calls Tryz.prog 138 #[v] w fun e w' => e = .returned (.bool (G_ l)) ∧ Below w.heap.size w w':=by
 obtain ⟨a,cap,rfl,h1,h2⟩:=h.shape;have HT:=zh (show mA l l.length → G_ l = true from fun h => (tF l).2 h);have HF:=zh (show ∀ j,j + 1 < l.length → _ from fun j => zBg (l:=l) (j:=j));have hm:=IC h1 h2;generalize hn : l.length = n at *;have Hr:=zh h;clear h h1 h2 hn
 go_enter Tryz.func138,Tryz.ntmps138
 go_wp2_with fail
 go_loopw [7] (fun i wr => ∃ k : Nat,k ≤ n ∧ i = .int .i64 (k : Int) ∧ mA l k ∧ Below w.heap.size w wr) (fun i _ => n - (intOf i).toNat)
 case atStart => exact ⟨0,aq _,rfl,fun j hj => absurd hj (by omega),aj _ _⟩
 obtain ⟨k,hk,rfl,D9,hb⟩:=hrel;have Jh:=zh D9;have Hb:=zh hb;have hB:=hb.size;clear D9 hb
 by_cases hlt : k < n
 ·
  have hr:=Hr.out.below Hb.out;obtain ⟨b,off,rfl,c0,c1,c2,c3⟩:=hr.at hlt
  by_cases h0 : k = 0
  ·
   subst h0;rw [Nat.zero_mul,bu] at c0 c1 c2 c3;clear hr;go_wp2_with fail
   go_quiet (fail)
   go_wp2_with fail;exact ⟨⟨1,by omega,by go_num,fun j hj => absurd hj (by omega),below_drewN (Hb.out.alloc hB _) _⟩,by simp [intOf]; omega⟩
  obtain ⟨j,rfl⟩ : ∃ j,k = j + 1:=⟨k - 1,by omega⟩
  have hd : decide ((0 : Int) < ((j + 1 : Nat) : Int)) = true:=by simp
  obtain ⟨_,_,e,d0,_⟩:=hr.at (show j < n by omega);injection e with e; injection e with e1 e2; subst e1 e2;generalize e1 : (d_ l (j + 1)).key = x at *;generalize e2 : (d_ l j).key = y at *;generalize (d_ l (j + 1)).ck = x1 at *;generalize (d_ l (j + 1)).off = x2 at *;generalize (d_ l (j + 1)).size = x3 at *;have E:=zh (And.intro e1 e2);clear e1 e2 h0 hr;have hne : ∀ o n,((wr.alloc o).drewN n).cell? ⟨b,off + j * 4,none⟩ = some (.int .u64 y):=fun o n => Below.keeps (below_drewN ((aj _ _).alloc (ai _) o) n) _ _ d0
  have i1 : (j : Int) + 1 < (n : Int):=by omega
  have i2 : (j : Int) < (n : Int):=by omega
  have j1 : IntKind.i64.wrap (j : Int) = (j : Int):=aF _ (by omega);go_wp2_with fail
  go_quiet (fail)
  clear j1 i1 i2;go_wp2_with fail
  ·
   have hle : x ≤ y:=by assumption
   go_ret;exact ⟨zH (HF.out j hlt (by rw [E.out.1,E.out.2]; exact hle)).symm,below_drewN (Hb.out.alloc hB _) _⟩
  have hxy : y < x:=by assumption
  refine ⟨⟨j + 1 + 1,by omega,by go_num,Jh.out.succ (fun i e => ?_),below_drewN (Hb.out.alloc hB _) _⟩,by simp [intOf]; omega⟩;obtain rfl : j = i:=by omega
  rw [E.out.1,E.out.2]; exact hxy
 obtain rfl : k = n:=by omega
 go_wp2_with fail;go_ret;exact ⟨zH (HT.out Jh.out).symm,Hb.out⟩
end Go.Proofs.YtcgfilmmokmdjaaGreat
namespace Go.Proofs.YtcgfilmmokmdjaaGreat.Crc
def poly : Nat:=2197175160
def st (r : Nat) : Nat:=if r % 2 = 1 then (r / 2) ^^^ poly else r / 2
def stk : Nat → Nat → Nat
 | 0,r => r
 | k + 1,r => st (stk k r)
def add (r : Nat) (x : UInt8) : Nat:=stk 8 (r ^^^ x.toNat)
def ext (r : Nat) (l : List UInt8) : Nat:=l.foldl add r
def sum (l : List UInt8) : Nat:=4294967295 - ext 4294967295 l
end Go.Proofs.YtcgfilmmokmdjaaGreat.Crc
namespace Go.Proofs.YtcgfilmmokmdjaaGreat
def Qf (l : List UInt8) (j : Nat) : UInt8:=l.getD j 0
def be (v n : Nat) : List UInt8:=(List.range n).map fun j => UInt8.ofNat (v / 2 ^ (8 * (n - 1 - j)))
def val (l : List UInt8) : Nat:=l.foldl (fun n x => (n * 256 + x.toNat) % 18446744073709551616) 0
def le4 (c : Nat) : List UInt8:=[UInt8.ofNat c,UInt8.ofNat (c / 2 ^ 8),UInt8.ofNat (c / 2 ^ 16),UInt8.ofNat (c / 2 ^ 24)]
end Go.Proofs.YtcgfilmmokmdjaaGreat
namespace Go.Proofs.YtcgfilmmokmdjaaGreat
open Go.RowKit
theorem CZ.gl {w : World} {v : Value} {l : List UInt8} (h : CZ w v l) : ∃ a cap,v = .slice a l.length cap ∧ l.length ≤ cap ∧ cap ≤ maxLen:=by
 obtain ⟨a,cap,h1,h2,h3,_⟩:=iw.shape h 0;exact ⟨a,cap,h1,h2,h3⟩
end Go.Proofs.YtcgfilmmokmdjaaGreat
namespace Go.Proofs.YtcgfilmmokmdjaaGreat
def ck (l : List UInt8) : List UInt8:=le4 (Crc.sum l)
end Go.Proofs.YtcgfilmmokmdjaaGreat
namespace Go.Proofs.YtcgfilmmokmdjaaGreat
open Go.RowKit
theorem zMf : (Tryz.prog.info? 5).map (fun i => (i.zero,i.size,i.bytes)) = some (some (.int .u8 0),1,1):=by kernel_rfl
theorem Tp : wK Tryz.prog 54 5 1 1:=by
 obtain ⟨i,h1,h2,h3,h4⟩:=b_ zMf;exact ⟨Tryz.underlying54,by decide,i,_,h1,h2,h3,h4,rfl⟩
abbrev Tq (w : World) (base : Nat) (v : Value) (l : List UInt8) : Prop:=w.ownsRow base 5 1 v l.length (l.map td)
theorem zLb {w : World} {base n : Nat} {v : Value} {l : List UInt8} {xs : List Value} (h : w.ownsRow base 5 1 v n xs) (e : xs = l.map td) : Tq w base v l:=by
 subst e;have : l.length = n:=by have:=h.1; rw [aI] at this; omega
 unfold Tq; rw [this]; exact h
end Go.Proofs.YtcgfilmmokmdjaaGreat
namespace Go.Proofs.YtcgfilmmokmdjaaGreat
def Fits (x : It) : Prop:=0 ≤ x.key ∧ x.key < 18446744073709551616 ∧ 0 ≤ x.ck ∧ x.ck < 4294967296 ∧ 0 ≤ x.off ∧ x.off < 4294967296 ∧ 0 ≤ x.size ∧ x.size < 4294967296
structure Nd where
 key : Nat
 ck : Nat
 del : Bool
 data : List UInt8
 deriving DecidableEq
def MY : Nd:=⟨0,0,false,[]⟩
instance : Inhabited Nd:=⟨MY⟩
def Nd.Wf (x : Nd) : Prop:=x.key < 18446744073709551616 ∧ x.ck < 4294967296
def Nd.ok (x : Nd) : Prop:=x.data.length ≤ 4096 ∧ (x.del = true → x.data = [])
def CJ (n : Nat) : Nat:=(31 + n) / 8 * 8
theorem tM (n : Nat) : 24 + n ≤ CJ n ∧ CJ n < 32 + n ∧ CJ n % 8 = 0:=by unfold CJ; omega
def zMt (x : Nd) : List UInt8:=[78,165,if x.del then 1 else 0,0] ++ be x.ck 4 ++ be x.key 8 ++ be x.data.length 4
def zLt (x : Nd) : List UInt8:=zMt x ++ x.data
def zMn (n : Nat) : List UInt8:=List.replicate n 0
def zMY (x : Nd) : List UInt8:=zLt x ++ ck (zLt x) ++ zMn (CJ x.data.length - (24 + x.data.length))
def LZ (b : List UInt8) : Nat:=val ((b.drop 16).take 4)
def Vt (b : List UInt8) : Prop:=Qf b 0 = 78 ∧ Qf b 1 = 165 ∧ (Qf b 2).toNat ≤ 1 ∧ Qf b 3 = 0 ∧ LZ b ≤ 4096 ∧ (Qf b 2 = 1 → LZ b = 0)
instance (b : List UInt8) : Decidable (Vt b):=by unfold Vt; exact inferInstance
def zM8 (b : List UInt8) : List UInt8:=(b.drop (24 + LZ b)).take (CJ (LZ b) - (24 + LZ b))
structure NOk (b : List UInt8) : Prop where
 long : 20 ≤ b.length
 form : Vt b
 whole : CJ (LZ b) ≤ b.length
 sum : ck (b.take (20 + LZ b)) = (b.drop (20 + LZ b)).take 4
 pad : (zM8 b).all (· == 0) = true
end Go.Proofs.YtcgfilmmokmdjaaGreat
namespace Go.Proofs.YtcgfilmmokmdjaaGreat
open Go.RowKit
def eP (n : Nat) : Nat:=if n ≤ 4096 then CJ n else 0
theorem Qh {n : Nat} (h : n ≤ 4096) : eP n = CJ n:=by unfold eP; rw [ag h]
theorem xt (n : Nat) : eP n ≤ 4127:=by
 unfold eP
 split
 ·
  have:=tM n; omega
 omega
theorem qW (n : Nat) (w : World) (h : n ≤ 1000000) : Calls Tryz.prog 53 #[.int .i64 (n : Int)] w fun e w' => e = .returned (.int .i64 ((eP n : Nat) : Int)) ∧ w = w':=by
 by_cases hn : n ≤ 4096
 ·
  have HS:=zh (show ((eP n : Nat) : Int) = (20 + (n : Int) + 4 + 8 - 1) / 8 * 8 by unfold eP CJ; rw [ag hn]; omega);have hd : decide ((4096 : Int) < (n : Int)) = false:=by simp; omega
  have hd2 : decide ((n : Int) < 0) = false:=by simp
  go_enter Tryz.func53,Tryz.ntmps53
  go_wp2_with fail;go_ret;exact ⟨wg (by rw [HS.out]),rfl⟩
 have HS:=zh (show eP n = 0 by unfold eP; rw [ah hn]);have hd : decide ((4096 : Int) < (n : Int)) = true:=by simp; omega
 have hd2 : decide ((n : Int) < 0) = false:=by simp
 go_enter Tryz.func53,Tryz.ntmps53
 go_wp2_with fail;go_ret;exact ⟨wg (by rw [HS.out]; rfl),rfl⟩
theorem zCi (n : Nat) (w : World) (h : n ≤ 1000000) : Calls Tryz.prog 28 #[.int .i64 (n : Int)] w fun e w' => e = .returned (.int .i64 ((eP n : Nat) : Int)) ∧ w = w':=by
 by_cases hn : n ≤ 4096
 ·
  have HS:=zh (show ((eP n : Nat) : Int) = (20 + (n : Int) + 4 + 8 - 1) / 8 * 8 by unfold eP CJ; rw [ag hn]; omega);have hd : decide ((4096 : Int) < (n : Int)) = false:=by simp; omega
  have hd2 : decide ((n : Int) < 0) = false:=by simp
  go_enter Tryz.func28,Tryz.ntmps28
  go_wp2_with fail;go_ret;exact ⟨wg (by rw [HS.out]; omega),rfl⟩
 have HS:=zh (show eP n = 0 by unfold eP; rw [ah hn]);have hd : decide ((4096 : Int) < (n : Int)) = true:=by simp; omega
 have hd2 : decide ((n : Int) < 0) = false:=by simp
 go_enter Tryz.func28,Tryz.ntmps28
 go_wp2_with fail;go_ret;exact ⟨wg (by rw [HS.out]; rfl),rfl⟩
theorem zFb {w : World} {B : Nat} {e : TypeId} {sz n : Nat} {v : Value} {xs : List Value} (h : w.ownsRow B e sz v n xs) {p : Addr} (hne : v.ownBlock ≠ some p.block) (u : Value) : (w.setCell p u).ownsRow B e sz v n xs:=by
 refine ⟨h.1,?_⟩;rcases h.2 with h0 | ⟨g,cap,cur,rfl,hb,hg,rest⟩
 ·
  exact .inl h0
 refine .inr ⟨g,cap,cur,rfl,hb,?_,rest⟩;rw [Below.heap_setCell w p u g (fun e => hne (by rw [← e]; rfl))]; exact hg
structure Wri (w : World) (p B : Nat) (l : List UInt8) : Prop where
 h : ∃ v,w.heap[p]? = some (.cells #[v] 203 (0,0)) ∧ Tq w B v l
def le (v n : Nat) : List UInt8:=(List.range n).map fun j => UInt8.ofNat (v / 2 ^ (8 * j))
theorem zKo (v : Value) (l : List It) (w : World) (h : i_ w v l) :
  Calls Tryz.prog 178 #[v,.func (.func 140) #[] #[]] w fun e w' => (∃ k : Int,e = .returned (.int .i64 k) ∧ decide (0 ≤ k) = !l.all okB) ∧ Below w.heap.size w w':=by
 obtain ⟨a,cap,rfl,h1,h2⟩:=h.shape;have HT:=zh (show (∀ j,j < l.length → _) → _ from kj (l:=l) (p:=okB));have HF:=zh (show ∀ j,j < l.length → _ → _ from fun j => qS (l:=l) (p:=okB) (j:=j));have hm:=IC h1 h2;generalize hn : l.length = n at *;have Hr:=zh h;clear h h1 h2 hn
 go_enter Tryz.func178,Tryz.ntmps178
 go_wp2_with fail
 go_loopw [8] (fun i wr => ∃ k : Nat,k ≤ n ∧ i = .int .i64 (k : Int) ∧ (∀ j,j < k → okB (d_ l j) = true) ∧ Below w.heap.size w wr) (fun i _ => n - (intOf i).toNat)
 case atStart => exact ⟨0,aq _,rfl,fun j hj => absurd hj (by omega),aj _ _⟩
 obtain ⟨k,hk,rfl,hok,hb⟩:=hrel;have mj:=zh hok;have Hb:=zh hb;have hB:=hb.size;clear hok hb
 by_cases hlt : k < n
 ·
  have hr:=Hr.out.below Hb.out;obtain ⟨b,off,rfl,c0,c1,c2,c3⟩:=hr.at hlt;have HV:=zh fun w => zDZ (d_ l k).key (d_ l k).ck (d_ l k).off (d_ l k).size w
  generalize hx : d_ l k = x at *;have EX:=zh hx;clear hx;clear hr;go_wp2_with fail;refine (HV.out _).mono ?_; rintro e w1 ⟨rfl,hb1⟩;have lX:=zh (zA Hb.out hb1)
  cases hx : okB x
  ·
   have HX:=zh hx;clear hb1 hx;go_wp2_with fail;go_ret;refine ⟨⟨k,rfl,?_⟩,lX.out⟩;rw [HF.out k hlt (by rw [EX.out]; exact HX.out)]; simp
  have HX:=zh hx;clear hb1 hx;go_wp2_with fail;refine ⟨⟨k + 1,by omega,by go_num,fun j hj => ?_,lX.out⟩,by simp [intOf]; omega⟩
  by_cases e : j = k
  ·
   rw [e,EX.out]; exact HX.out
  exact mj.out j (by omega)
 obtain rfl : k = n:=by omega
 go_wp2_with fail;go_ret;refine ⟨⟨-1,rfl,?_⟩,Hb.out⟩;rw [HT.out mj.out]; rfl
theorem zI8 (v : Value) (l : List It) (w : World) (h : i_ w v l) :
  Calls Tryz.prog 139 #[v,.func (.func 140) #[] #[]] w fun e w' => e = .returned (.bool (!l.all okB)) ∧ Below w.heap.size w w':=by
 have HA:=zh (zKo v l w h);obtain ⟨a,cap,rfl,h1,h2⟩:=h.shape;clear h h1 h2
 go_enter Tryz.func139,Tryz.ntmps139
 go_wp2_with fail;refine HA.out.mono ?_; rintro e w1 ⟨⟨k,rfl,hk⟩,hb1⟩;have Hk:=zh hk;have lX:=zh hb1;clear hk hb1;go_wp2_with fail;go_ret;exact ⟨zH Hk.out,lX.out⟩
theorem zGg (v : Value) (l : List It) (w : World) (h : i_ w v l) :
  Calls Tryz.prog 99 #[v] w fun e w' => e = .returned (.bool (xx l)) ∧ Below w.heap.size w w':=by
 have HA:=zh (Vr v l w h);have HC:=zh (fun w h => zI8 v l w h);have Hr:=zh h;obtain ⟨a,cap,rfl,h1,h2⟩:=h.shape;clear h h1 h2
 go_enter Tryz.func99,Tryz.ntmps99
 go_wp2_with fail;refine HA.out.mono ?_; rintro e w1 ⟨rfl,hb1⟩;have lX:=zh hb1
 cases hab : G_ l
 ·
  have HF:=zh (zEj hab);clear hb1 hab;go_wp2_with fail;go_ret;exact ⟨zH HF.out.symm,lX.out⟩
 have HF:=zh (show xx l = l.all okB by unfold xx; rw [hab]; rfl);clear hb1 hab;go_wp2_with fail;refine (HC.out w1 (Hr.out.below lX.out)).mono ?_; rintro e w2 ⟨rfl,hb2⟩;have IE:=zh (zA lX.out hb2);clear hb2;go_wp2_with fail;go_ret;exact ⟨zH (HF.out.symm),IE.out⟩
theorem zI0 (v : Value) (l : List It) (w : World) (h : i_ w v l) :
  Calls Tryz.prog 161 #[v] w fun e w' => e = .returned (.bool (xx l)) ∧ Below w.heap.size w w':=by
 obtain ⟨a,cap,rfl,h1,h2⟩:=h.shape;have HT:=zh (show mA l l.length → (∀ j,j < l.length → okB (d_ l j) = true) → xx l = true from zIO);have Vu:=zh (show ∀ j,j + 1 < l.length → (d_ l (j + 1)).key ≤ (d_ l j).key → xx l = false from fun j h1 h2 => zEj (zBg h1 h2));have HF2:=zh (show ∀ j,j < l.length → okB (d_ l j) = false → xx l = false from fun j => zLM (l:=l) (j:=j));have hm:=IC h1 h2;generalize hn : l.length = n at *;have Hr:=zh h;clear h h1 h2 hn
 go_enter Tryz.func161,Tryz.ntmps161
 go_wp2_with fail
 go_loopw [3] (fun i wr => ∃ k : Nat,k ≤ n ∧ i = .int .i64 (k : Int) ∧ mA l k ∧ (∀ j,j < k → okB (d_ l j) = true) ∧ Below w.heap.size w wr) (fun i _ => n - (intOf i).toNat)
 case atStart => exact ⟨0,aq _,rfl,fun j hj => absurd hj (by omega),fun j hj => absurd hj (by omega),aj _ _⟩
 obtain ⟨k,hk,rfl,D9,hok,hb⟩:=hrel;have Jh:=zh D9;have mj:=zh hok;have Hb:=zh hb;have hB:=hb.size;clear D9 hok hb
 by_cases hlt : k < n
 ·
  have hr:=Hr.out.below Hb.out;obtain ⟨b,off,rfl,c0,c1,c2,c3⟩:=hr.at hlt;obtain ⟨r,MZ⟩ : ∃ r,okB (d_ l k) = r:=⟨_,rfl⟩
  have HV:=zh fun w => zAm (d_ l k).key (d_ l k).ck (d_ l k).off (d_ l k).size w
  rw [show okB ⟨(d_ l k).key,(d_ l k).ck,(d_ l k).off,(d_ l k).size⟩ = r from MZ] at HV;have HR:=zh MZ;clear MZ;have f1:=zB c1;have f2:=zB c2;have f3:=zB c3;have i1 : (k : Int) < (n : Int):=by omega
  have gj:=zh (HF2.out k hlt);rw [HR.out] at gj
  cases r
  ·
   have f0:=zB c0;generalize d_ l k = x at *;clear c0 c1 c2 c3 hr;go_wp2_with fail;refine zC (by kernel_rfl) (by kernel_rfl) ?_
   repeat (go_big_quiet_step ((exact zE (HV.out _))))
   refine aA ?_;intro _ hw';obtain ⟨q,hw'⟩:=hw';subst hw';go_wp2_with fail;go_ret;exact ⟨zH (gj.out (by first | trivial | rfl)).symm,zA Hb.out q.h⟩
  have HK:=zh (show ∀ j,j < k + 1 → okB (d_ l j) = true from fun j hj => by
   by_cases e : j = k
   ·
    rw [e]; exact HR.out
   exact mj.out j (by omega))
  by_cases h0 : k = 0
  ·
   subst h0;rw [Nat.zero_mul,bu] at c0 f1 f2 f3;have f0:=zB c0;clear c0 c1 c2 c3 hr;generalize d_ l 0 = x at *;go_wp2_with fail;refine zC (by kernel_rfl) (by kernel_rfl) ?_
   repeat (go_big_quiet_step ((exact zE (HV.out _))))
   refine aA ?_;intro _ hw';obtain ⟨q,hw'⟩:=hw';subst hw';go_wp2_with fail;exact ⟨⟨1,by omega,by go_num,fun j hj => absurd hj (by omega),HK.out,zA Hb.out q.h⟩,by simp [intOf]; omega⟩
  obtain ⟨j,rfl⟩ : ∃ j,k = j + 1:=⟨k - 1,by omega⟩
  have hd : decide ((0 : Int) < ((j + 1 : Nat) : Int)) = true:=by simp
  have f0:=zB c0;obtain ⟨_,_,e,d0,_⟩:=hr.at (show j < n by omega);injection e with e; injection e with e1 e2; subst e1 e2;have g0:=zB d0;have Jj:=zh (Vu.out j hlt)
  have HK3:=zh (show (d_ l j).key < (d_ l (j + 1)).key → mA l (j + 1 + 1) from fun h => Jh.out.succ fun i e => by
   obtain rfl : j = i:=by omega
   exact h)
  clear c0 c1 c2 c3 hr d0;generalize d_ l (j + 1) = x at *;generalize d_ l j = y at *;have i2 : (j : Int) < (n : Int):=by omega
  have i3 : (j : Int) + 1 < (n : Int):=by omega
  have j1 : IntKind.i64.wrap (j : Int) = (j : Int):=aF _ (by omega);go_wp2_with fail;refine zC (by kernel_rfl) (by kernel_rfl) ?_
  repeat (go_big_quiet_step ((exact zE (HV.out _))))
  refine aA ?_;intro _ hw';obtain ⟨q,hw'⟩:=hw';subst hw';clear i2 i3 j1;go_wp2_with fail
  ·
   have hle : x.key ≤ y.key:=by assumption
   go_ret;exact ⟨zH (Jj.out hle).symm,zA Hb.out q.h⟩
  have hxy : y.key < x.key:=by assumption
  exact ⟨⟨j + 1 + 1,by omega,by go_num,HK3.out hxy,HK.out,zA Hb.out q.h⟩,by simp [intOf]; omega⟩
 obtain rfl : k = n:=by omega
 go_wp2_with fail;go_ret;exact ⟨zH (HT.out Jh.out mj.out).symm,Hb.out⟩
end Go.Proofs.YtcgfilmmokmdjaaGreat
namespace Go.Proofs.YtcgfilmmokmdjaaGreat
def ins : List It → It → List It
 | [],x => [x]
 | y :: r,x => if y.key < x.key then y :: ins r x else if y.key = x.key then x :: r else x :: y :: r
def fE (l : List It) : List It:=l.foldl ins []
theorem Ts : ∀ (out : List It) (x : It) (k : Nat),k ≤ out.length → (∀ j,j < k → (d_ out j).key < x.key) → (k < out.length → x.key ≤ (d_ out k).key) →
  ins out x = out.take k ++ x :: out.drop (if k < out.length ∧ (d_ out k).key = x.key then k + 1 else k)
 | [],x,k,hk,_,_ => by
  obtain rfl : k = 0:=by simpa using hk
  simp [ins]
 | y :: r,x,0,_,_,h2 => by
  have h:=h2 (by simp);have e0 : d_ (y :: r) 0 = y:=rfl;rw [e0] at h;unfold ins;rw [ah (by omega)]
  by_cases e : y.key = x.key
  ·
   rw [ag e,ag ⟨by simp,by rw [e0]; exact e⟩]; simp
  rw [ah e,ah (fun h => e (by rw [e0] at h; exact h.2))]; simp
 | y :: r,x,k + 1,hk,h1,h2 => by
  have e0 : d_ (y :: r) 0 = y:=rfl;have hs : ∀ j,d_ (y :: r) (j + 1) = d_ r j:=fun j => rfl
  unfold ins;rw [ag (by have:=h1 0 (by omega); rwa [e0] at this)];rw [Ts r x k (by simpa using hk) (fun j hj => by have:=h1 (j + 1) (by omega); rwa [hs] at this) (fun hj => by have:=h2 (by simpa using hj); rwa [hs] at this)];rw [hs]
  by_cases e : k < r.length ∧ (d_ r k).key = x.key
  ·
   rw [ag e,ag ⟨by simpa using e.1,e.2⟩]; simp
  rw [ah e,ah (fun h => e ⟨by simpa using h.1,h.2⟩)]; simp
theorem vv (x : It) : ∀ out : List It,(ins out x).length ≤ out.length + 1
 | [] => by simp [ins]
 | y :: r => by
  have:=vv x r;unfold ins
  split
  ·
   simp; omega
  split <;> simp
theorem zGx : fE [] = []:=rfl
theorem Vv {l : List It} {j : Nat} (h : j < l.length) : fE (l.take (j + 1)) = ins (fE (l.take j)) (d_ l j):=by
 unfold fE;rw [xH h,dy]; rfl
theorem vU (l : List It) : ∀ j,j ≤ l.length → (fE (l.take j)).length ≤ j
 | 0,_ => by simp [fE]
 | j + 1,h => by
  rw [Vv (by omega)];have:=vv (d_ l j) (fE (l.take j));have:=vU l j (by omega);omega
theorem yZ (l : List It) : (fE l).length ≤ l.length:=by
 have:=vU l l.length (ai _)
 rwa [cm] at this
theorem Qi {p : It → Prop} (x : It) (hx : p x) : ∀ out : List It,(∀ y ∈ out,p y) → ∀ y ∈ ins out x,p y
 | [],_ => by simp [ins]; exact hx
 | y :: r,h => by
  have hr:=Qi x hx r (fun z hz => h z (by simp [hz]));intro z hz;unfold ins at hz
  split at hz
  ·
   rcases List.mem_cons.1 hz with rfl | hz
   ·
    exact h _ (by simp)
   exact hr z hz
  split at hz
  ·
   rcases List.mem_cons.1 hz with rfl | hz
   ·
    exact hx
   exact h z (by simp [hz])
  rcases List.mem_cons.1 hz with rfl | hz
  ·
   exact hx
  exact h z hz
theorem zCx {p : It → Prop} : ∀ (l out : List It),(∀ y ∈ l,p y) → (∀ y ∈ out,p y) → ∀ y ∈ l.foldl ins out,p y
 | [],_,_,h => h
 | x :: l,out,hl,h => zCx l (ins out x) (fun y hy => hl y (by simp [hy])) (Qi x (hl x (by simp)) out h)
theorem zHL {p : It → Prop} {l : List It} (h : ∀ y ∈ l,p y) : ∀ y ∈ fE l,p y:=zCx l [] h (fun _ hy => by cases hy)
def lY : List It → Prop
 | [] => True
 | [_] => True
 | x :: y :: r => x.key < y.key ∧ lY (y :: r)
theorem xh : ∀ l : List It,lY l ↔ jX l
 | [] => ⟨fun _ _ h => by simp at h,fun _ => trivial⟩
 | [_] => ⟨fun _ _ h => by simp at h,fun _ => trivial⟩
 | x :: y :: r => by
  unfold lY;rw [xh (y :: r)]
  constructor
  ·
   rintro ⟨h1,h2⟩ j hj
   cases j with
   | zero => exact h1
   | succ j => exact h2 j (by simpa using hj)
  intro h;exact ⟨h 0 (by simp),fun j hj => h (j + 1) (by simpa using hj)⟩
theorem lY.tail {x : It} {r : List It} (h : lY (x :: r)) : lY r:=by
 cases r with
 | nil => trivial
 | cons y r => exact h.2
theorem lY.cons {x : It} {r : List It} (h : lY r) (hx : ∀ y,r.head? = some y → x.key < y.key) : lY (x :: r):=by
 cases r with
 | nil => trivial
 | cons y r => exact ⟨hx y rfl,h⟩
theorem zJr (x y : It) (r : List It) (z : It) (h : (ins r x).head? = some z) (hx : y.key < x.key) (hr : ∀ y',r.head? = some y' → y.key < y'.key) : y.key < z.key:=by
 cases r with
 | nil => simp [ins] at h; subst h; exact hx
 | cons u r =>
  unfold ins at h
  split at h
  ·
   simp at h; subst h; exact hr _ rfl
  split at h <;> (simp at h; subst h; exact hx)
theorem qu (x : It) : ∀ out : List It,lY out → lY (ins out x)
 | [],_ => trivial
 | y :: r,h => by
  unfold ins
  split
  ·
   rename_i hlt;refine (qu x r h.tail).cons fun z hz => zJr x y r z hz hlt fun y' IF => ?_
   cases r with
   | nil => cases IF
   | cons u r => simp at IF; subst IF; exact h.1
  split
  ·
   rename_i h1 h2;refine h.tail.cons fun z hz => ?_
   cases r with
   | nil => cases hz
   | cons u r => simp at hz; subst hz; rw [← h2]; exact h.1
  exact ⟨by omega,h⟩
theorem zDI : ∀ (l out : List It),lY out → lY (l.foldl ins out)
 | [],_,h => h
 | x :: l,out,h => zDI l (ins out x) (qu x out h)
theorem vF (l : List It) : jX (fE l):=(xh _).1 (zDI l [] trivial)
theorem Vw (x : It) : ∀ out : List It,(∀ y ∈ out,y.key < x.key) → ins out x = out ++ [x]
 | [],_ => rfl
 | y :: r,h => by
  unfold ins;rw [ag (h y (by simp)),Vw x r (fun z hz => h z (by simp [hz]))]; rfl
theorem zAG {l : List It} (h : jX l) : ∀ j,j ≤ l.length → fE (l.take j) = l.take j
 | 0,_ => by simp [fE]
 | j + 1,hj => by
  rw [Vv (by omega),zAG h j (by omega),Vw,← xH (by omega)];intro y hy;obtain ⟨i,hi,rfl⟩:=uZ hy;rw [ay] at hi;rw [wn (by omega)];exact h.mono (by omega) (by omega)
theorem yQ {l : List It} (h : jX l) : fE l = l:=by
 have:=zAG h l.length (ai _)
 rwa [cm] at this
def fJ (l : List It) (key : Int) : Option It:=l.find? fun x => x.key == key
def Place (l : List It) (key : Int) (r : Nat) : Prop:=r ≤ l.length ∧ (∀ j,r = j + 1 → (d_ l j).key < key) ∧ (r < l.length → key ≤ (d_ l r).key)
theorem Place.lt {l : List It} {key : Int} {r : Nat} (h : Place l key r) (ha : jX l) {j : Nat} (hj : j < r) : (d_ l j).key < key:=by
 obtain ⟨h1,h2,_⟩:=h;have h3:=h2 (r - 1) (by omega)
 by_cases e : j = r - 1
 ·
  rw [e]; exact h3
 have:=ha.mono (show j < r - 1 by omega) (by omega);omega
theorem zL4 {l : List It} {key : Int} : ∀ {r : Nat},r < l.length → (d_ l r).key = key → (∀ j,j < r → (d_ l j).key ≠ key) → fJ l key = some (d_ l r):=by
 induction l with
 | nil => intro r h; simp at h
 | cons x l ih =>
  intro r hr hk hn;unfold fJ;rw [List.find?_cons]
  cases r with
  | zero =>
   have : x.key = key:=hk;rw [show (x.key == key) = true from beq_iff_eq.2 this]; rfl
  | succ r =>
   have h0 : x.key ≠ key:=hn 0 (by omega);rw [show (x.key == key) = false from beq_eq_false_iff_ne.2 h0];exact ih (r:=r) (by simpa using hr) hk (fun j hj => hn (j + 1) (by omega))
theorem zIx {l : List It} {key : Int} (h : ∀ j,j < l.length → (d_ l j).key ≠ key) : fJ l key = none:=by
 unfold fJ;rw [List.find?_eq_none];intro x hx;obtain ⟨j,hj,rfl⟩:=uZ hx
 simpa using h j hj
theorem Place.found {l : List It} {key : Int} {r : Nat} (h : Place l key r) (ha : jX l) (hr : r < l.length) (hk : (d_ l r).key = key) : fJ l key = some (d_ l r):=
 zL4 hr hk fun j hj => by have:=h.lt ha hj; omega
theorem Place.not {l : List It} {key : Int} {r : Nat} (h : Place l key r) (ha : jX l) (hk : r < l.length → (d_ l r).key ≠ key) : fJ l key = none:=
 zIx fun j hj => by
  by_cases e : j < r
  ·
   have:=h.lt ha e; omega
  by_cases e2 : j = r
  ·
   rw [e2]; exact hk (by omega)
  have h1:=h.2.2 (by omega);have h2:=ha.mono (show r < j by omega) hj;omega
end Go.Proofs.YtcgfilmmokmdjaaGreat
namespace Go.Proofs.YtcgfilmmokmdjaaGreat
open Go.RowKit
theorem Vx {wo : World} {base : Nat} {a oa : Option Addr} {oc m : Nat} {xs : List Value} (h : ∀ z,a = some z → wo.heap.size ≤ z.block) (ho : wo.ownsRow base 49 4 (.slice oa m oc) m xs) (k : Nat) :
  ∀ z,a = some z → some z.block ≠ (Value.slice oa k oc).ownBlock:=by
 intro z hz e;have h1:=h z hz;have h2:=ho.lt z.block (by rw [e]; cases oa <;> rfl);omega
theorem qX (v : Value) (l : List It) (w : World) (h : i_ w v l) (hs : l.length ≤ 1000000) :
  Calls Tryz.prog 164 #[v] w fun e w' => ∃ v',e = .returned v' ∧ fu w' w.heap.size v' (fE l) ∧ Below w.heap.size w w':=by
 obtain ⟨a,cap,rfl,_,_⟩:=h.shape;have HS:=zh (show ∀ j,j < l.length → _ from fun j => Vv (l:=l) (j:=j));have HL:=zh (vU l);have HE:=zh (show fE (l.take l.length) = fE l by rw [cm]);generalize hn : l.length = n at *;have Hr:=zh h;clear h hn
 go_enter Tryz.func164,Tryz.ntmps164
 go_wp2_with fail
 go_loopw [3,4] (fun ov iv wr => ∃ j : Nat,iv = .int .i64 (j : Int) ∧ j ≤ n ∧ fu wr w.heap.size ov (fE (l.take j)) ∧ Below w.heap.size w wr) (fun _ iv _ => n - (intOf iv).toNat)
 case atStart => exact ⟨0,rfl,aq _,aU _ _ _ _,aj _ _⟩
 obtain ⟨j,rfl,hj,hown,hb⟩:=hrel;have hB:=hb.size;obtain ⟨oa,oc,rfl,ho1,ho2,CL⟩:=zM hown;have Qj:=zh CL;have Hb:=zh hb;have gQ:=zh (show wr.ownsRow w.heap.size 49 4 _ (fE (l.take j)).length (zU (fE (l.take j))) from hown);clear hown hb CL
 by_cases hlt : j < n
 ·
  have hL:=HL.out j hj;have Vy:=zh (HS.out j hlt);generalize fE (l.take j) = o at *;generalize hm : o.length = m at *;have HM:=zh hm;clear hm;obtain ⟨b,off,rfl,c0,c1,c2,c3⟩:=Hr.out.at hlt;generalize d_ l j = x at *;have Be:=zh (fun w' (h : Below w.heap.size w w') => And.intro (Below.keeps h _ _ c0) (And.intro (Below.keeps h _ _ c1) (And.intro (Below.keeps h _ _ c2) (Below.keeps h _ _ c3))));have c0:=Below.keeps Hb.out _ _ c0;clear c1 c2 c3;obtain ⟨wo,ewo⟩ : ∃ wo : World,wo = wr:=⟨_,rfl⟩
  subst ewo;go_wp2_with fail
  go_loopw [5] (fun kv w2 => ∃ k : Nat,kv = .int .i64 (k : Int) ∧ k ≤ m ∧ (∀ i,i < k → (d_ o i).key < x.key) ∧ Below wo.heap.size wo w2) (fun kv _ => m - (intOf kv).toNat)
  case atStart => exact ⟨0,rfl,aq _,fun i hi => absurd hi (by omega),aj _ _⟩
  obtain ⟨k,rfl,hk,hkey,hb2⟩:=hrel;have M2:=zh hkey;have IE:=zh hb2;have d0:=Below.keeps hb2 _ _ c0;clear hkey hb2;have i1 : (j : Int) < (n : Int):=by omega
  by_cases Ph : k < m
  ·
   have ho:=(yt (zw gQ.out)).below IE.out;obtain ⟨bo,oo,rfl,e0,_⟩:=ho.at Ph;clear ho;have i2 : (k : Int) < (m : Int):=by omega
   generalize hy : (d_ o k).key = y at *;have HY:=zh hy;clear hy
   by_cases Ki : y < x.key
   ·
    have hyd : decide (y < x.key) = true:=aD Ki;go_wp2_with fail
    go_quiet (fail)
    clear i1 i2;go_wp2_with fail
    exact ⟨⟨k + 1,by go_num,by omega,fun i hi => by
     by_cases e : i = k
     ·
      rw [e,HY.out]; exact Ki
     exact M2.out i (by omega),below_drewN IE.out _⟩,by simp [intOf]; omega⟩
   have hyd : decide (y < x.key) = false:=aC Ki;have K0:=zh (Ts o x k (by rw [HM.out]; exact hk) M2.out (by rw [HY.out]; omega));obtain ⟨sa,sc,hrun,hsl,hsb⟩:=vw yI (t6 ((yt (zw gQ.out)).below IE.out)) k hk;rw [← uq] at hsl;obtain ⟨d,hd,Bf,hd2⟩ : ∃ d,m - k = d ∧ 0 < d ∧ d ≤ m:=⟨m - k,rfl,by omega,by omega⟩
   rw [hd] at hsl hrun;have HD:=zh hd;have Vz:=zh hsl;have D_:=zh (fun nq => di (base:=wr.heap.size) (e:=49) (size:=4) (wr.drewN nq) #[] 0 (ai _) (by decide) rfl);clear hsl hsb hd;go_wp2_with fail
   go_quiet (fail)
   clear i1 i2;go_wp2_with (at_builtin; go_must (refine zi rfl (.tmp 32) (.tmp 35) 33 rfl yI wr.heap.size rfl (D_.out nq) rfl ((Vz.out.below (below_drewN (aj _ _) nq)).alloc _) (zp _) (by unfold maxLen; omega) (by omega) (by simp) ?_); intro v3 w3 eu fh hv3; clear hv3);rw [aJ,bV] at eu;have hb3:=zL ((below_drewN (aj wr.heap.size wr) nq).alloc (ai _) _) (D_.out nq) (by simp) fh;obtain ⟨ra,rc,rfl,hr1,hr2,hr3⟩:=zM eu;obtain ⟨rb,VA,rfl,g0,_⟩:=(yt (zw eu)).at Bf;have hrb:=(eu.lt rb rfl).1;simp only [xo,Nat.zero_mul,bu,HY.out] at g0;have k0:=Below.keeps hb3 _ _ d0;have M5:=zh (zw eu);have M6:=zh hb3;have hdd : decide ((0 : Int) < (d : Int)) = true:=by simp; omega
   have i1 : (j : Int) < (n : Int):=by omega
   clear eu fh hb3 hr3 hrun
   by_cases Ha : y = x.key
   ·
    have Pj : (y == x.key) = true:=beq_iff_eq.2 Ha;obtain ⟨ta,tc,L0,Qk,M7⟩:=vw yI M5.out 1 Bf;rw [show ((1 : Nat) : Int) = 1 from rfl] at L0;have Ql:=zh Qk;have Qm:=zh M7;clear Qk M7;go_wp2_with fail
    go_quiet (fail)
    go_wp2_with fail;obtain ⟨w4,hw4⟩ : ∃ w4,w4 = w3.drewN nq:=⟨_,rfl⟩
    rw [← hw4];have L9:=zh (show Below wo.heap.size wo w4 by rw [hw4]; exact below_drewN (zA IE.out M6.out) nq)
    have Qn:=zh (show Rd w4 4 (.slice ta (d - 1) tc) (d - 1) (zU (o.drop (k + 1))) by
     rw [hw4,show k + 1 = k + 1 from rfl,← bW,uq]; exact Ql.out.below (below_drewN (aj _ _) nq))
    have Qo:=zh (show ∀ z,ta = some z → wo.heap.size ≤ z.block from fun z hz => by
     obtain ⟨y',IF,e⟩:=Qm.out z hz
     injection IF with IF
     rw [← e,← IF]; exact ak IE.out.size hrb)
    have Jk:=zh (Vx Qo.out gQ.out k);have Qp:=zh (show ins o x = o.take k ++ x :: o.drop (k + 1) by rw [K0.out,ag ⟨by rw [HM.out]; exact Ph,HY.out.trans Ha⟩]);have Qq:=zh (show d - 1 ≤ m by omega);clear hw4 M5 M6 Ql Qm L0 g0 k0 Pj Ha;have L_:=yX (P:=Tryz.prog) yI (n:=m) Qj.out k (ak hk ho1);have C0:=zh (zA Hb.out L9.out);have C1 : w.heap.size ≤ w4.heap.size:=C0.out.size;have iU:=zh (vr (zI gQ.out L9.out) k hk);have HT:=zh (zp [x]);have hrl:=Qq.out
    go_region_held3 (fun w' => w'.cell? ⟨b,off + j * 4,none⟩ = some (.int .u64 x.key) ∧ w'.cell? ⟨b,off + j * 4 + 1,none⟩ = some (.int .u32 x.ck) ∧ w'.cell? ⟨b,off + j * 4 + 2,none⟩ = some (.int .i64 x.off) ∧ w'.cell? ⟨b,off + j * 4 + 3,none⟩ = some (.int .i64 x.size))
     (first | exact Be.out _ C0.out.drew | exact Be.out _ (C0.out.drew.alloc C1 _) | exact Be.out _ (zL (C0.out.drew.alloc C1 _) ((iU.out.drew).alloc _) (by simp; omega) gR) | exact Be.out _ (zL (zL (C0.out.drew.alloc C1 _) ((iU.out.drew).alloc _) (by simp; omega) gR) f_ (ak (by simp; omega) gR.size) B8))
     (first | (refine vP (by rfl) _ _ _ (by rfl) yI w.heap.size (by rfl) ((iU.out.drew).alloc _) (by rfl) (Rd.new _ 4 (g_ x) 49 1 rfl (by decide)) (by simpa [zU] using HT.out) (by unfold maxLen; omega) (by omega) (by simp; omega) ?_; intro v5 w5 f_ gR Qr; clear Qr) | (refine vP (by rfl) _ _ _ (by rfl) yI w.heap.size (by rfl) f_ (by rfl) (((Qn.out.drew).alloc _).grown gR Jk.out) (zp _) (by unfold maxLen; omega) (by omega) (ak (by simp; omega) gR.size) ?_; intro v6 w6 jG B8 Qs; clear Qs))
    have jY : zU (o.take k) ++ g_ x ++ zU (o.drop (k + 1)) = zU (fE (l.take (j + 1))):=by rw [Vy.out,Qp.out,zt,um,a_]
    rw [xu] at jY;have Ea:=zh jY;have jK:=zh (zL (zL (C0.out.drew.alloc C1 _) ((iU.out.drew).alloc _) (by simp; omega) gR) f_ (ak (by simp; omega) gR.size) B8);have mC:=zh jG;clear jY f_ jG gR B8;go_wp2_with fail;exact ⟨⟨j + 1,by go_num,by omega,yO mC.out Ea.out,jK.out⟩,by simp [intOf]; omega⟩
   have Pj : (y == x.key) = false:=beq_eq_false_iff_ne.2 Ha;go_wp2_with fail
   go_quiet (fail)
   go_wp2_with fail;obtain ⟨w4,hw4⟩ : ∃ w4,w4 = w3.drewN nq:=⟨_,rfl⟩
   rw [← hw4];have L9:=zh (show Below wo.heap.size wo w4 by rw [hw4]; exact below_drewN (zA IE.out M6.out) nq)
   have Qn:=zh (show Rd w4 4 _ d (zU (o.drop k)) by
    rw [hw4]; exact M5.out.below (below_drewN (aj _ _) nq))
   have Qo:=zh (show ∀ z,some (⟨rb,VA,none⟩ : Addr) = some z → wo.heap.size ≤ z.block from fun z hz => by
    injection hz with hz
    rw [← hz]; exact ak IE.out.size hrb)
   have Jk:=zh (Vx Qo.out gQ.out k);have Qp:=zh (show ins o x = o.take k ++ x :: o.drop k by rw [K0.out,ah (fun h => Ha (HY.out.symm.trans h.2))]);have Qq:=zh (show d ≤ m by omega);clear hw4 M5 M6 g0 k0 Pj Ha;have L_:=yX (P:=Tryz.prog) yI (n:=m) Qj.out k (ak hk ho1);have C0:=zh (zA Hb.out L9.out);have C1 : w.heap.size ≤ w4.heap.size:=C0.out.size;have iU:=zh (vr (zI gQ.out L9.out) k hk);have HT:=zh (zp [x]);have hrl:=Qq.out
   go_region_held3 (fun w' => w'.cell? ⟨b,off + j * 4,none⟩ = some (.int .u64 x.key) ∧ w'.cell? ⟨b,off + j * 4 + 1,none⟩ = some (.int .u32 x.ck) ∧ w'.cell? ⟨b,off + j * 4 + 2,none⟩ = some (.int .i64 x.off) ∧ w'.cell? ⟨b,off + j * 4 + 3,none⟩ = some (.int .i64 x.size))
    (first | exact Be.out _ C0.out.drew | exact Be.out _ (C0.out.drew.alloc C1 _) | exact Be.out _ (zL (C0.out.drew.alloc C1 _) ((iU.out.drew).alloc _) (by simp; omega) gR) | exact Be.out _ (zL (zL (C0.out.drew.alloc C1 _) ((iU.out.drew).alloc _) (by simp; omega) gR) f_ (ak (by simp; omega) gR.size) B8))
    (first | (refine vP (by rfl) _ _ _ (by rfl) yI w.heap.size (by rfl) ((iU.out.drew).alloc _) (by rfl) (Rd.new _ 4 (g_ x) 49 1 rfl (by decide)) (by simpa [zU] using HT.out) (by unfold maxLen; omega) (by omega) (by simp; omega) ?_; intro v5 w5 f_ gR Qr; clear Qr) | (refine vP (by rfl) _ _ _ (by rfl) yI w.heap.size (by rfl) f_ (by rfl) (((Qn.out.drew).alloc _).grown gR Jk.out) (zp _) (by unfold maxLen; omega) (by omega) (ak (by simp; omega) gR.size) ?_; intro v6 w6 jG B8 Qs; clear Qs))
   have jY : zU (o.take k) ++ g_ x ++ zU (o.drop k) = zU (fE (l.take (j + 1))):=by rw [Vy.out,Qp.out,zt,um,a_]
   rw [xu] at jY;have Ea:=zh jY;have jK:=zh (zL (zL (C0.out.drew.alloc C1 _) ((iU.out.drew).alloc _) (by simp; omega) gR) f_ (ak (by simp; omega) gR.size) B8);have mC:=zh jG;clear jY f_ jG gR B8;go_wp2_with fail;exact ⟨⟨j + 1,by go_num,by omega,yO mC.out Ea.out,jK.out⟩,by simp [intOf]; omega⟩
  obtain rfl : k = m:=by omega
  have K0:=zh (Ts o x k (by rw [HM.out]; exact ai _) M2.out (by rw [HM.out]; intro h; omega));obtain ⟨sa,sc,hrun,hsl,hsb⟩:=vw yI (zw (zI gQ.out IE.out)) k hk;rw [Nat.sub_self,bY (by rw [yJ,HM.out]; exact ai _)] at hsl;rw [Nat.sub_self] at hrun;have Vz:=zh hsl;have D_:=zh (fun nq => di (base:=wr.heap.size) (e:=49) (size:=4) (wr.drewN nq) #[] 0 (ai _) (by decide) rfl);clear hsl hsb;go_wp2_with fail
  go_quiet (fail)
  clear i1;go_wp2_with (at_builtin; go_must (refine zi rfl (.tmp 32) (.tmp 35) 33 rfl yI wr.heap.size rfl (D_.out nq) rfl ((Vz.out.below (below_drewN (aj _ _) nq)).alloc _) (fun _ h => by cases h) (by unfold maxLen; omega) (by omega) (by simp) ?_); intro v3 w3 eu fh hv3; clear hv3);rw [aJ,bV] at eu;have hb3:=zL ((below_drewN (aj wr.heap.size wr) nq).alloc (ai _) _) (D_.out nq) (by simp) fh;obtain ⟨ra,rc,rfl,hr1,hr2,hr3⟩:=zM eu;have M5:=zh (zw eu);have M6:=zh hb3
  have Qo:=zh (show ∀ z,ra = some z → wo.heap.size ≤ z.block from fun z hz => by
   subst hz
   exact ak IE.out.size (eu.lt _ rfl).1)
  have Jk:=zh (Vx Qo.out gQ.out k);have Qp:=zh (show ins o x = o.take k ++ x :: [] by rw [K0.out,ah (fun h => by have:=HM.out; omega),bY (by rw [HM.out]; exact ai _)]);have Qq:=zh (show 0 ≤ k from aq _);clear eu fh hb3 hr3 hrun;go_wp2_with fail
  go_quiet (fail)
  go_wp2_with fail;obtain ⟨w4,hw4⟩ : ∃ w4,w4 = w3.drewN nq:=⟨_,rfl⟩
  rw [← hw4];have L9:=zh (show Below wo.heap.size wo w4 by rw [hw4]; exact below_drewN (zA IE.out M6.out) nq)
  have Qn:=zh (show Rd w4 4 _ 0 (zU []) by
   rw [hw4]; exact M5.out.below (below_drewN (aj _ _) nq))
  clear hw4 M5 M6;have L_:=yX (P:=Tryz.prog) yI (n:=k) Qj.out k ho1;have C0:=zh (zA Hb.out L9.out);have C1 : w.heap.size ≤ w4.heap.size:=C0.out.size;have iU:=zh (vr (zI gQ.out L9.out) k hk);have HT:=zh (zp [x]);have hrl:=Qq.out
  go_region_held3 (fun w' => w'.cell? ⟨b,off + j * 4,none⟩ = some (.int .u64 x.key) ∧ w'.cell? ⟨b,off + j * 4 + 1,none⟩ = some (.int .u32 x.ck) ∧ w'.cell? ⟨b,off + j * 4 + 2,none⟩ = some (.int .i64 x.off) ∧ w'.cell? ⟨b,off + j * 4 + 3,none⟩ = some (.int .i64 x.size))
   (first | exact Be.out _ C0.out.drew | exact Be.out _ (C0.out.drew.alloc C1 _) | exact Be.out _ (zL (C0.out.drew.alloc C1 _) ((iU.out.drew).alloc _) (by simp; omega) gR) | exact Be.out _ (zL (zL (C0.out.drew.alloc C1 _) ((iU.out.drew).alloc _) (by simp; omega) gR) f_ (ak (by simp; omega) gR.size) B8))
   (first | (refine vP (by rfl) _ _ _ (by rfl) yI w.heap.size (by rfl) ((iU.out.drew).alloc _) (by rfl) (Rd.new _ 4 (g_ x) 49 1 rfl (by decide)) (by simpa [zU] using HT.out) (by unfold maxLen; omega) (by omega) (by simp; omega) ?_; intro v5 w5 f_ gR Qr; clear Qr) | (refine vP (by rfl) _ _ _ (by rfl) yI w.heap.size (by rfl) f_ (by rfl) (((Qn.out.drew).alloc _).grown gR Jk.out) (zp _) (by unfold maxLen; omega) (by omega) (ak (by simp; omega) gR.size) ?_; intro v6 w6 jG B8 Qs; clear Qs))
  have jY : zU (o.take k) ++ g_ x ++ zU [] = zU (fE (l.take (j + 1))):=by rw [Vy.out,Qp.out,zt,um,a_]
  rw [xu] at jY;have Ea:=zh jY;have jK:=zh (zL (zL (C0.out.drew.alloc C1 _) ((iU.out.drew).alloc _) (by simp; omega) gR) f_ (ak (by simp; omega) gR.size) B8);have mC:=zh jG;clear jY f_ jG gR B8;go_wp2_with fail;exact ⟨⟨j + 1,by go_num,by omega,yO mC.out Ea.out,jK.out⟩,by simp [intOf]; omega⟩
 obtain rfl : j = n:=by omega
 go_wp2_with fail;go_ret;exact ⟨_,rfl,by rw [← HE.out]; exact gQ.out,Hb.out⟩
def zMU (x : It) : It:=⟨x.key,x.ck,16 + 8 * (x.off % 4096),x.size % 4096⟩
def mk (l : List It) : List It:=(fE (l.take 40)).map zMU
def upd (o : List It) (k : Nat) : List It:=(o.take k).map zMU ++ o.drop k
end Go.Proofs.YtcgfilmmokmdjaaGreat
