/- A part of the walk. -/
import Derived.Test.YtcgfilmmokmdjaaGreatQAA
import Derived.Shelf.SlSortCmp.KitK
import Derived.Ground.SlsfProg
import Derived.Deep.Onto
set_option linter.all false
set_option maxRecDepth 100000
set_option maxHeartbeats 32000000
namespace Go.Proofs.YtcgfilmmokmdjaaGreat
open Go.RowKit
theorem VB (v : Value) (l : List It) (w : World) (h : i_ w v l) (hs : l.length ≤ 1000000) :
  Calls Tryz.prog 134 #[v] w fun e w' => ∃ v',e = .returned v' ∧ fu w' w.heap.size v' l ∧ Below w.heap.size w w':=by
 obtain ⟨a,cap,rfl,h1,h2⟩:=h.shape;have q22 : ∀ (w : World) (a : Option Addr) (n c n' c' : Nat),(binOp .eql 33 (.slice a n c) (.slice none n' c')).run Tryz.prog w = .ok (.bool a.isNone) w:=fun w a n c n' c' => Lib.run_eql_slice_nil w _ _ a n c n' c' Tryz.underlying33
 cases a with
 | none =>
  have h0 : l = []:=by
   obtain ⟨_,a',cap',e,_,_,h5,_⟩:=h.2;injection e with e1 e2 e3;have:=h5 e1.symm;exact List.length_eq_zero_iff.1 (by omega)
  subst h0;clear h
  go_enter Tryz.func134,Tryz.ntmps134
  go_wp2_with fail;go_ret;exact ⟨_,rfl,aU _ _ _ _,aj _ _⟩
 | some p =>
  have Hr:=zh (t6 h);generalize hn : l.length = n at *;clear h
  go_enter Tryz.func134,Tryz.ntmps134
  go_wp2_with (at_builtin; go_must (refine zi rfl (.tmp 5) (.tmp 6) 33 rfl yI w.heap.size rfl (di (size:=4) _ #[] 0 (ai _) (by decide) rfl) rfl (Hr.out.alloc _) (zp _) (by unfold maxLen; omega) (by omega) (by simp) ?_); intro v3 w3 eu fh hv3; clear hv3);have HB:=zh (zL ((aj w.heap.size w).alloc (ai _) _) (di (e:=49) (size:=4) w #[] 0 (ai _) (by decide) rfl) (by simp) fh);have HO:=zh (yO eu (bV _));clear eu fh;go_wp2_with fail;go_ret;exact ⟨_,rfl,HO.out,HB.out⟩
def wZ (l : List It) : Prop:=∀ (v : Value) (w : World),i_ w v l → Calls Tryz.prog 135 #[v] w fun e w' => ∃ v',e = .returned v' ∧ fu w' w.heap.size v' (fE l) ∧ Below w.heap.size w w'
theorem zGV (l : List It) (ha : jX l) (hs : l.length ≤ 1000000) : wZ l:=by
 intro v w h;have HC:=zh (VB v l w h hs);have HA:=zh (fun v w h => Vr v l w h);rw [(tF l).2 ha] at HA;have HS:=zh (yQ ha);obtain ⟨a,cap,rfl,h1,h2⟩:=h.shape;clear h ha
 go_enter Tryz.func135,Tryz.ntmps135
 go_wp2_with fail;refine HC.out.mono ?_; rintro e w1 ⟨v1,rfl,hown1,hb1⟩;have HO:=zh hown1;have HB:=zh hb1;clear hown1 hb1;go_wp2_with fail;refine (HA.out _ _ HO.out.rd).mono ?_; rintro e w2 ⟨rfl,hb2⟩;have gu:=zh (zI HO.out hb2);have eV:=zh (zA HB.out hb2);clear hb2;go_wp2_with fail;go_ret;exact ⟨_,rfl,by rw [HS.out]; exact gu.out,eV.out⟩
structure C2 (w : World) (lb kb : Nat) (a : Option Addr) (n cap : Nat) (l : List It) (key : Int) : Prop where
 lv : w.cell? ⟨lb,0,none⟩ = some (.slice a n cap)
 kv : w.cell? ⟨kb,0,none⟩ = some (.int .u64 key)
 rd : i_ w (.slice a n cap) l
theorem C2.below {w w' : World} {lb kb : Nat} {a : Option Addr} {n cap : Nat} {l : List It} {key : Int} (h : C2 w lb kb a n cap l key) (hb : Below w.heap.size w w') : C2 w' lb kb a n cap l key:=
 ⟨Below.keeps hb _ _ h.lv,Below.keeps hb _ _ h.kv,h.rd.below hb⟩
theorem zLd (i lb kb : Nat) (a : Option Addr) (n cap : Nat) (l : List It) (key : Int) (w : World) (h : C2 w lb kb a n cap l key) (hi : i < n) (_hn : n ≤ 1000000) :
  Calls Tryz.prog 177 #[.int .i64 (i : Int),.pointer (some ⟨lb,0,none⟩),.pointer (some ⟨kb,0,none⟩)] w fun e w' => e = .returned (.bool (decide (key ≤ (d_ l i).key))) ∧ Below w.heap.size w w':=by
 obtain ⟨h1,h2,h3⟩:=h;obtain ⟨b,off,rfl,c0,_⟩:=h3.at hi;generalize (d_ l i).key = x at *;have i1 : (i : Int) < (n : Int):=by omega
 clear h3
 go_enter Tryz.func177,Tryz.ntmps177
 go_wp2_with fail
 go_quiet (fail)
 go_wp2_with fail;go_ret;exact ⟨rfl,below_drewN (aj _ _) _⟩
theorem zFZ (lb kb : Nat) (a : Option Addr) (n cap : Nat) (l : List It) (key : Int) (w : World) (h : C2 w lb kb a n cap l key) (hn : n ≤ 1000000) :
  Calls Tryz.prog 176 #[.int .i64 (n : Int),.func (.func 177) #[] #[.pointer (some ⟨lb,0,none⟩),.pointer (some ⟨kb,0,none⟩)]] w fun e w' =>
   (∃ r : Nat,e = .returned (.int .i64 (r : Int)) ∧ r ≤ n ∧ (∀ j,r = j + 1 → (d_ l j).key < key) ∧ (r < n → key ≤ (d_ l r).key)) ∧ Below w.heap.size w w':=by
 have H:=zh h;clear h
 go_enter Tryz.func176,Tryz.ntmps176
 go_wp2_with fail
 go_loopw [5,6] (fun iv jv wr => ∃ i j : Nat,iv = .int .i64 (i : Int) ∧ jv = .int .i64 (j : Int) ∧ i ≤ j ∧ j ≤ n ∧ (∀ k,i = k + 1 → (d_ l k).key < key) ∧ (j < n → key ≤ (d_ l j).key) ∧ Below w.heap.size w wr) (fun iv jv _ => (intOf jv - intOf iv).toNat)
 case atStart => exact ⟨0,n,rfl,rfl,aq _,ai _,fun k hk => by omega,fun h => by omega,aj _ _⟩
 obtain ⟨i,j,rfl,rfl,hij,hj,hlo,hhi,hb⟩:=hrel;have HL:=zh hlo;have HH:=zh hhi;have Hb:=zh hb;clear hlo hhi hb
 by_cases hlt : i < j
 ·
  obtain ⟨m,hm,hm1,jH⟩ : ∃ m : Nat,(i + j) / 2 = m ∧ i ≤ m ∧ m < j:=⟨(i + j) / 2,rfl,by omega,by omega⟩
  have HC:=zh (fun W hW => zLd m lb kb a n cap l key W (H.out.below hW) (by omega) hn);have Tt : ((i : Int) + (j : Int)) / 2 = (m : Int):=by omega
  have HMi:=zh hm;clear hm;generalize hq : decide (key ≤ (d_ l m).key) = q at *;have HQ:=zh hq;clear hq;go_wp2_with fail;refine (HC.out _ Hb.out).mono ?_; rintro e w1 ⟨rfl,hb1⟩;have lX:=zh (zA Hb.out hb1);clear hb1
  cases q
  ·
   go_wp2_with fail;refine ⟨⟨m + 1,j,by go_num,rfl,by omega,hj,fun k hk => ?_,HH.out,lX.out⟩,by simp [intOf]; omega⟩;obtain rfl : m = k:=by omega
   have:=cD HQ.out;omega
  go_wp2_with fail;exact ⟨⟨i,m,rfl,rfl,hm1,by omega,HL.out,fun _ => aX HQ.out,lX.out⟩,by simp [intOf]; omega⟩
 obtain rfl : i = j:=by omega
 go_wp2_with fail;go_ret;exact ⟨⟨i,rfl,hj,HL.out,HH.out⟩,Hb.out⟩
theorem kJ (v : Value) (l : List It) (key : Int) (w : World) (h : i_ w v l) (hs : l.length ≤ 1000000) :
  Calls Tryz.prog 136 #[v,.int .u64 key] w fun e w' => (∃ r : Nat,Place l key r ∧ e = .returned (.tuple #[.int .i64 (r : Int),.bool (decide (r < l.length ∧ (d_ l r).key = key))])) ∧ Below w.heap.size w w':=by
 obtain ⟨a,cap,rfl,h1,h2⟩:=h.shape;have HP:=zh (show ∀ r,r ≤ l.length → (∀ j,r = j + 1 → (d_ l j).key < key) → (r < l.length → key ≤ (d_ l r).key) → Place l key r from fun r a b c => ⟨a,b,c⟩);generalize hn : l.length = n at *;have Hr:=zh h;have HW:=zh (show Below w.heap.size w ((w.alloc (.cells #[.slice a n cap] 33)).alloc (.cells #[.int .u64 key] 24)) from ((aj _ _).alloc (ai _) _).alloc (by simp) _);have HC:=zh (zFZ w.heap.size (w.heap.size + 1) a n cap l key ((w.alloc (.cells #[.slice a n cap] 33)).alloc (.cells #[.int .u64 key] 24)) ⟨by simp,by simp,Hr.out.below HW.out⟩ hs);have HX:=zh (show C2 ((w.alloc (.cells #[.slice a n cap] 33)).alloc (.cells #[.int .u64 key] 24)) w.heap.size (w.heap.size + 1) a n cap l key from ⟨by simp,by simp,Hr.out.below HW.out⟩);clear h hn h1 h2
 go_enter Tryz.func136,Tryz.ntmps136
 go_wp2_with fail;refine HC.out.mono ?_; rintro e w1 ⟨⟨r,rfl,r1,r2,r3⟩,hb1⟩;have HR:=zh (HP.out r r1 r2 r3);obtain ⟨x1,x2,x3⟩:=HX.out.below hb1;have lX:=zh (zA HW.out hb1);clear hb1 r2 r3
 by_cases hrn : r < n
 ·
  obtain ⟨b,off,rfl,c0,_⟩:=x3.at hrn;have i1 : (r : Int) < (n : Int):=by omega
  have HE:=zh (show ((d_ l r).key == key) = decide (r < n ∧ (d_ l r).key = key) by rw [dA]; simp [hrn]);generalize hy : (d_ l r).key = y at *;have HY:=zh hy;clear x3 hy;go_wp2_with fail
  go_quiet (fail)
  go_wp2_with fail;go_ret2;exact ⟨⟨r,HR.out,zJi (by rw [HY.out]; exact HE.out)⟩,below_drewN lX.out _⟩
 obtain rfl : r = n:=by omega
 have HE:=zh (show false = decide (r < r ∧ (d_ l r).key = key) by simp);clear x3;go_wp2_with fail
 go_quiet (fail)
 go_wp2_with fail;go_ret2;exact ⟨⟨r,HR.out,zJi HE.out⟩,below_drewN lX.out _⟩
theorem zEO (v : Value) (l : List It) (key : Int) (w : World) (h : i_ w v l) (hk : wZ l) (hs : l.length ≤ 1000000) :
  Calls Tryz.prog 100 #[v,.int .u64 key] w fun e w' => e = .returned (.tuple #[jS ((fJ (fE l) key).getD fM),.bool (fJ (fE l) key).isSome]) ∧ Below w.heap.size w w':=by
 have HS:=zh (fun w h => hk v w h);have hlen:=yZ l;have HA:=zh (vF l);have HF:=zh (fun v w h => kJ v (fE l) key w h (by omega));have Hr:=zh h;obtain ⟨a,cap,rfl,_,_⟩:=h.shape;generalize fE l = s at *;have HW:=zh (show Below w.heap.size w (w.alloc (.cells #[.int .u64 0,.int .u32 0,.int .i64 0,.int .i64 0] 49)) from (aj _ _).alloc (ai _) _);have hW : (w.alloc (.cells #[.int .u64 0,.int .u32 0,.int .i64 0,.int .i64 0] 49)).heap.size = w.heap.size + 1:=by simp
 clear h hk
 go_enter Tryz.func100,Tryz.ntmps100
 go_wp2_with fail;refine (HS.out _ (Hr.out.below HW.out)).mono ?_; rintro e w1 ⟨v1,rfl,hown1,hb1⟩;have HO:=zh hown1;have HB:=zh hb1;clear hown1 hb1;go_wp2_with fail;refine (HF.out _ _ HO.out.rd).mono ?_; rintro e w2 ⟨⟨r,hp,rfl⟩,hb2⟩;have eV:=zh (HB.out.trans (hb2.mono HB.out.size));have g : ∀ i u,(w.alloc (.cells #[.int .u64 0,.int .u32 0,.int .i64 0,.int .i64 0] 49)).cell? ⟨w.heap.size,i,none⟩ = some u → w2.cell? ⟨w.heap.size,i,none⟩ = some u:=fun i u hu => (eV.out.cell (p:=⟨w.heap.size,i,none⟩) (by simp)).trans hu
 have f : ∀ i,w2.frozen? ⟨w.heap.size,i,none⟩ = false:=fun i => (eV.out.frozen (p:=⟨w.heap.size,i,none⟩) (by simp)).trans (by simp)
 have g0:=g 0 _ (by simp; rfl);have g1:=g 1 _ (by simp; rfl);have g2:=g 2 _ (by simp; rfl);have g3:=g 3 _ (by simp; rfl);have f0:=f 0;have f1:=f 1;have f2:=f 2;have f3:=f 3;have hs2 : w.heap.size < w2.heap.size:=by have:=eV.out.size; omega
 have Pk:=zh (show Below w.heap.size w w2 from HW.out.trans (eV.out.mono (by omega)));have CA:=zh (HO.out.rd.below hb2);have HP:=zh hp;clear g f hb2 hp hW
 by_cases hy : r < s.length ∧ (d_ s r).key = key
 ·
  have C4:=zh (HP.out.found HA.out hy.1 hy.2);rw [aD hy];obtain ⟨_,cv,rfl,_,_⟩:=CA.out.shape;obtain ⟨b,off,rfl,c0,c1,c2,c3⟩:=CA.out.at hy.1;have hrl:=hy.1;generalize hx : d_ s r = x at *;have HX:=zh hx;clear hx hy;go_wp2_with fail;exact au (v:=.tuple #[jS x,.bool true]) (by simp [results,Tryz.results100,go_sem,g0,g1,g2,g3]) rfl ⟨by rw [C4.out]; rfl,((((Pk.out.setCell (ai _) _).setCell (ai _) _).setCell (ai _) _).setCell (ai _) _)⟩
 have C4:=zh (HP.out.not HA.out (fun h h' => hy ⟨h,h'⟩));rw [aC hy];clear hy;go_wp2_with fail;exact au (v:=.tuple #[jS fM,.bool false]) (by simp [results,Tryz.results100,go_sem,g0,g1,g2,g3,fM]) rfl ⟨by rw [C4.out]; rfl,((((Pk.out.setCell (ai _) _).setCell (ai _) _).setCell (ai _) _).setCell (ai _) _)⟩
end Go.Proofs.YtcgfilmmokmdjaaGreat
namespace Go.Proofs.YtcgfilmmokmdjaaGreat
open Go.RowKit Go.Shelf
def zIM : Go.Shelf.Ren:=⟨fun | 6 => 129 | 15 => 167 | 14 => 166 | 28 => 194 | 29 => 195 | 20 => 186 | 21 => 187 | 22 => 188 | 23 => 189 | 24 => 190 | 25 => 191 | 26 => 192 | 27 => 193 | 46 => 204 | 47 => 205 | 48 => 206 | 49 => 207 | 50 => 208 | 57 => 213 | n => n,fun | 22 => 33 | 24 => 49 | 25 => 216 | 3 => 3 | 39 => 185 | 0 => 0 | 53 => 47 | 55 => 24 | 4 => 4 | 46 => 256 | 45 => 255 | 50 => 221 | 5 => 5 | 9 => 9 | 66 => 270 | 70 => 274 | 76 => 278 | 77 => 279 | n => n,fun | n => n⟩
theorem zLs : Go.Proofs.SlLaysF0.n6 Tryz.prog zIM:={
 mixed:=by kernel_rfl
 f6:=⟨Tryz.f129.name,by decide,Tryz.func129.trans (aQ some (by kernel_rfl))⟩
 f14:=⟨Tryz.f166.name,by decide,Tryz.func166.trans (aQ some (by kernel_rfl))⟩
 f15:=Tryz.func167.trans (aQ some (by kernel_rfl))
 f20:=⟨Tryz.f186.name,by decide,Tryz.func186.trans (aQ some (by kernel_rfl))⟩
 f21:=⟨Tryz.f187.name,by decide,Tryz.func187.trans (aQ some (by kernel_rfl))⟩
 f22:=⟨Tryz.f188.name,by decide,Tryz.func188.trans (aQ some (by kernel_rfl))⟩
 f23:=⟨Tryz.f189.name,by decide,Tryz.func189.trans (aQ some (by kernel_rfl))⟩
 f24:=⟨Tryz.f190.name,by decide,Tryz.func190.trans (aQ some (by kernel_rfl))⟩
 f25:=⟨Tryz.f191.name,by decide,Tryz.func191.trans (aQ some (by kernel_rfl))⟩
 f26:=⟨Tryz.f192.name,by decide,Tryz.func192.trans (aQ some (by kernel_rfl))⟩
 f27:=⟨Tryz.f193.name,by decide,Tryz.func193.trans (aQ some (by kernel_rfl))⟩
 f28:=Tryz.func194.trans (aQ some (by kernel_rfl))
 f29:=Tryz.func195.trans (aQ some (by kernel_rfl))
 f46:=⟨Tryz.f204.name,by decide,Tryz.func204.trans (aQ some (by kernel_rfl))⟩
 f47:=Tryz.func205.trans (aQ some (by kernel_rfl))
 f48:=Tryz.func206.trans (aQ some (by kernel_rfl))
 f49:=⟨Tryz.f207.name,by decide,Tryz.func207.trans (aQ some (by kernel_rfl))⟩
 f50:=⟨Tryz.f208.name,by decide,Tryz.func208.trans (aQ some (by kernel_rfl))⟩
 f57:=⟨Tryz.f213.name,by decide,Tryz.func213.trans (aQ some (by kernel_rfl))⟩
 t0:=Tryz.underlying0
 a0:=Tryz.isAgg0
 z0:=Tryz.sizeOf0
 v0:=Tryz.zeroValue0
 t3:=Tryz.underlying3
 a3:=Tryz.isAgg3
 z3:=Tryz.sizeOf3
 v3:=Tryz.zeroValue3
 t4:=Tryz.underlying4
 a4:=Tryz.isAgg4
 z4:=Tryz.sizeOf4
 v4:=Tryz.zeroValue4
 t5:=Tryz.underlying5
 a5:=Tryz.isAgg5
 z5:=Tryz.sizeOf5
 v5:=Tryz.zeroValue5
 t9:=Tryz.underlying9
 a9:=Tryz.isAgg9
 z9:=Tryz.sizeOf9
 v9:=Tryz.zeroValue9
 t22:=Tryz.underlying33
 a22:=Tryz.isAgg33
 z22:=Tryz.sizeOf33
 v22:=Tryz.zeroValue33
 t25:=Tryz.underlying216
 a25:=Tryz.isAgg216
 z25:=Tryz.sizeOf216
 v25:=Tryz.zeroValue216
 t39:=Tryz.underlying185
 a39:=Tryz.isAgg185
 z39:=Tryz.sizeOf185
 v39:=Tryz.zeroValue185
 t45:=Tryz.underlying255
 a45:=Tryz.isAgg255
 z45:=Tryz.sizeOf255
 v45:=Tryz.zeroValue255
 t46:=Tryz.underlying256
 a46:=Tryz.isAgg256
 z46:=Tryz.sizeOf256
 v46:=Tryz.zeroValue256
 t50:=Tryz.underlying221
 a50:=Tryz.isAgg221
 z50:=Tryz.sizeOf221
 v50:=Tryz.zeroValue221
 t53:=Tryz.underlying47
 a53:=Tryz.isAgg47
 z53:=Tryz.sizeOf47
 v53:=Tryz.zeroValue47
 t55:=Tryz.underlying24
 a55:=Tryz.isAgg24
 z55:=Tryz.sizeOf24
 v55:=Tryz.zeroValue24
 t66:=Tryz.underlying270
 a66:=Tryz.isAgg270
 z66:=Tryz.sizeOf270
 v66:=Tryz.zeroValue270
 t70:=Tryz.underlying274
 a70:=Tryz.isAgg274
 z70:=Tryz.sizeOf274
 v70:=Tryz.zeroValue274
 t76:=Tryz.underlying278
 a76:=Tryz.isAgg278
 z76:=Tryz.sizeOf278
 v76:=Tryz.zeroValue278
 t77:=Tryz.underlying279
 a77:=Tryz.isAgg279
 z77:=Tryz.sizeOf279
 v77:=Tryz.zeroValue279 }
def Ma (x y : Int) : Int:=if x < y then -1 else if y < x then 1 else 0
theorem Tv (x y : Int) : (decide (Ma x y < 0)) = decide (x < y):=by
 unfold Ma
 by_cases h : x < y
 ·
  rw [ag h]; simp [h]
 rw [ah h]
 by_cases h2 : y < x
 ·
  rw [ag h2]; simp [h]
 rw [ah h2]; simp [h]
theorem wV (x : Int) (w : World) : Calls Tryz.prog 168 #[.int .i64 x] w fun e w' => e = .returned (.bool false) ∧ w' = w:=by
 go_enter Tryz.func168,Tryz.ntmps168
 have hx : (x != x) = false:=by simp
 go_wp2_with fail;go_ret;exact ⟨rfl,rfl⟩
theorem zCh (x y : Int) (w : World) : Calls Tryz.prog 131 #[.int .i64 x,.int .i64 y] w fun e w' => e = .returned (.int .i64 (Ma x y)) ∧ w' = w:=by
 unfold Ma
 by_cases h : x < y
 ·
  rw [ag h]
  go_enter Tryz.func131,Tryz.ntmps131
  go_wp2_with fail;refine (wV _ _).mono ?_; rintro e w1 ⟨rfl,rfl⟩;go_wp2_with fail;refine (wV _ _).mono ?_; rintro e w2 ⟨rfl,rfl⟩;go_wp2_with fail;go_ret;exact ⟨rfl,rfl⟩
 rw [ah h]
 by_cases h2 : y < x
 ·
  rw [ag h2]
  go_enter Tryz.func131,Tryz.ntmps131
  go_wp2_with fail;refine (wV _ _).mono ?_; rintro e w1 ⟨rfl,rfl⟩;go_wp2_with fail;refine (wV _ _).mono ?_; rintro e w2 ⟨rfl,rfl⟩;go_wp2_with fail;go_ret;exact ⟨rfl,rfl⟩
 rw [ah h2]
 go_enter Tryz.func131,Tryz.ntmps131
 go_wp2_with fail;refine (wV _ _).mono ?_; rintro e w1 ⟨rfl,rfl⟩;go_wp2_with fail;refine (wV _ _).mono ?_; rintro e w2 ⟨rfl,rfl⟩;go_wp2_with fail;go_ret;exact ⟨rfl,rfl⟩
theorem zHv (x y : It) (w : World) : Calls Tryz.prog 130 #[jS x,jS y] w fun e w' => e = .returned (.int .i64 (Ma x.off y.off)) ∧ ∃ q os',w' = Sort.grow (w.drewN q) os':=by
 go_enter Tryz.func130,Tryz.ntmps130
 go_wp2_with fail;refine (zCh _ _ _).mono ?_; rintro e w1 ⟨rfl,rfl⟩;go_wp2_with fail;go_ret;exact ⟨rfl,0,_,by rw [Sort.alloc_eq_grow,Sort.alloc_eq_grow,Sort.grow_grow]; rfl⟩
theorem zCq (l : List It) (t : Nat) (h : t < l.length * 4) : (zU l)[t]? = some ((g_ l.toArray[t / 4]!)[t % 4]!):=by
 have h4 : t / 4 < l.length:=by omega
 have e:=tV 4 g_ fM l (fun x _ => ws x) (t / 4) (t % 4) h4 (by omega);rw [show t / 4 * 4 + t % 4 = t from by omega] at e;have e2 : l.toArray[t / 4]! = l.getD (t / 4) fM:=by
  rw [getElem!_pos _ _ (by simpa using h4),aw,aB h4];simp
 rw [e2];unfold zU;rw [e];have h5 : t % 4 < (g_ (l.getD (t / 4) fM)).length:=by rw [ws]; omega
 rw [aB h5,getElem!_pos (g_ (l.getD (t / 4) fM)) (t % 4) h5]
theorem zBp {w : World} {g n : Nat} {l : List It} {cur : Array Value} {e : TypeId} (hg : w.heap[g]? = some (.cells cur e (0,0))) (hn : l.length = n) (ht : cur.toList.take (n * 4) = zU l) : Sort.HoldsK g_ 4 w g 0 l.toArray:=by
 intro j hj;rw [Sort.size_flatK,b8] at hj;rw [Sort.get_flatK _ _ _ _ (by rw [b8]; exact hj),aJ];refine ⟨?_,by simp [World.frozen?,hg]⟩;rw [cell_of_row w g j cur e (0,0) hg];have h:=zCq l j hj;rw [← ht,cI,ag (by omega)] at h
 simpa using h
theorem zHe {w : World} {g cap : Nat} {d : Array It} (h : Sort.HoldsK g_ 4 w g 0 d) (hn : d.size ≤ cap) (hc : cap ≤ maxLen) : i_ w (.slice (some ⟨g,0,none⟩) d.size cap) d.toList:=by
 refine yt (n:=d.size) ⟨by rw [yJ]; simp,some ⟨g,0,none⟩,cap,rfl,hn,hc,fun h => by simp at h,fun _ => ⟨g,0,rfl,fun j u hj => ?_⟩⟩;have VC : j < d.toList.length * 4:=by
  have:=(List.getElem?_eq_some_iff.1 hj).1
  rwa [yJ] at this
 have h2:=(h j (by rw [Sort.size_flatK]; simpa using VC)).1;rw [Sort.get_flatK _ _ _ _ (by simpa using VC)] at h2;rw [zCq _ _ VC] at hj;injection hj with hj;subst hj;exact h2
theorem zDb {w : World} {B g n : Nat} {d : Array It} {os : Array Obj} (hB : B ≤ g) (hg : g < w.heap.size) : Below B w (sortWorldK g_ 4 w g 0 n d os):=by
 refine ⟨rfl,rfl,rfl,size_sortWorldK_c g_ 4 w g 0 n d os,fun k hk => ?_⟩;unfold sortWorldK Sort.grow Sort.putRowK Sort.putRow Sort.mapBlock
 show ((Array.modify _ g _) ++ os)[k]? = _
 rw [Array.getElem?_append_left (by rw [Array.size_modify]; show k < w.heap.size; omega),Array.getElem?_modify,ah (by omega)]
 rfl
theorem zKm {l : List It} {d' : Array It} (h : Sort.PermIn 0 l.toArray.size l.toArray d') : l.Perm d'.toList:=by
 obtain ⟨h1,_,h2⟩:=h;have e1 : (d'.extract 0 l.toArray.size) = d':=by rw [← h1]; simp
 have e2 : (l.toArray.extract 0 l.toArray.size) = l.toArray:=by simp
 rw [e1,e2] at h2;exact h2.symm
theorem zIN {d' : Array It} {n : Nat} (hn : d'.size = n) (h : Sort.SortedIn (ltOf fun x y : It => Ma x.off y.off) 0 n d') : d'.toList.Pairwise fun a b => a.off ≤ b.off:=by
 rw [List.pairwise_iff_getElem];intro i j hi hj hij;have hi' : i < d'.size:=by simpa using hi
 have hj' : j < d'.size:=by simpa using hj
 have h2:=h i j (aq _) hij (by omega);unfold ltOf at h2;rw [Tv,decide_eq_false_iff_not,getElem!_pos d' i hi',getElem!_pos d' j hj'] at h2
 simpa using h2
theorem zNB : Sort.SWO (ltOf fun x y : It => Ma x.off y.off) where
 irrefl x:=by unfold ltOf; rw [Tv]; simp
 trans x y z h1 h2:=by unfold ltOf at *; rw [Tv] at *; simp at *; omega
 ntrans x y z h1 h2:=by unfold ltOf at *; rw [Tv] at *; simp at *; omega
end Go.Proofs.YtcgfilmmokmdjaaGreat
namespace Go.Proofs.YtcgfilmmokmdjaaGreat
open Go.RowKit
abbrev Pm (n : Int) : Value:=.int .u64 n
abbrev lJ (w : World) (v : Value) (l : List Int) : Prop:=iw Pm w v l
def CB (l : List Int) (j : Nat) : Int:=l.getD j 0
theorem lJ.gl {w : World} {v : Value} {l : List Int} (h : lJ w v l) : ∃ a cap,v = .slice a l.length cap ∧ l.length ≤ cap ∧ cap ≤ maxLen:=by
 obtain ⟨a,cap,h1,h2,h3,_⟩:=iw.shape h 0;exact ⟨a,cap,h1,h2,h3⟩
theorem lJ.at {w : World} {a : Option Addr} {n cap : Nat} {l : List Int} (h : lJ w (.slice a n cap) l) {j : Nat} (hj : j < n) : ∃ b off,a = some ⟨b,off,none⟩ ∧ w.cell? ⟨b,off + j,none⟩ = some (.int .u64 (CB l j)):=by
 obtain ⟨a',cap',e,h2,h3,_,h5⟩:=iw.shape h 0;injection e with e1 e2 e3;subst e1 e2 e3;obtain ⟨b,off,e,hc⟩:=h5 (by omega);exact ⟨b,off,e,hc j hj⟩
theorem VD {l : List Int} {j : Nat} (h : j < l.length) : CB l j ∈ l:=by
 unfold CB;rw [aw,aB h]; exact bM h
theorem zEg {l : List Int} {x : Int} {j : Nat} (h : j < l.length) (h' : CB l j = x) : l.contains x = true:=by
 rw [List.contains_iff_mem]; rw [← h']; exact VD h
theorem zD1 {l : List Int} {x : Int} (h : ∀ j,j < l.length → CB l j ≠ x) : l.contains x = false:=by
 cases e : l.contains x with
 | false => rfl
 | true =>
  rw [List.contains_iff_mem] at e;obtain ⟨j,hj,e⟩:=List.mem_iff_getElem.1 e;exact absurd (by simp [CB,aB hj,e]) (h j hj)
theorem zFl (v : Value) (l : List Int) (x : Int) (w : World) (h : lJ w v l) :
  Calls Tryz.prog 196 #[v,.int .u64 x] w fun e w' => (∃ k : Int,e = .returned (.int .i64 k) ∧ decide (0 ≤ k) = l.contains x) ∧ w = w':=by
 obtain ⟨a,cap,rfl,h1,h2⟩:=h.gl;have HT:=zh (show (∀ j,j < l.length → CB l j ≠ x) → l.contains x = false from zD1);have HF:=zh (show ∀ j,j < l.length → CB l j = x → l.contains x = true from fun j => zEg);have hm:=IC h1 h2;generalize l.contains x = r at *;generalize hn : l.length = n at *;have Hr:=zh h;clear h h1 h2 hn
 go_enter Tryz.func196,Tryz.ntmps196
 go_wp2_with fail
 go_loop [8] (fun i => ∃ k : Nat,k ≤ n ∧ i = .int .i64 (k : Int) ∧ (∀ j,j < k → CB l j ≠ x)) (fun i => n - (intOf i).toNat)
 case atStart => exact ⟨0,aq _,rfl,fun j hj => absurd hj (by omega)⟩
 obtain ⟨k,hk,rfl,hno⟩:=hrel;have Hno:=zh hno;clear hno
 by_cases hlt : k < n
 ·
  obtain ⟨b,off,rfl,c0⟩:=Hr.out.at hlt;generalize hy : CB l k = y at *;have HY:=zh hy;clear hy
  by_cases hxy : x = y
  ·
   have hd : (x == y) = true:=beq_iff_eq.2 hxy;have HR:=zh (HF.out k hlt (by rw [HY.out,hxy]));clear hxy;go_wp2_with fail;go_ret;exact ⟨⟨k,rfl,by rw [HR.out]; simp⟩,rfl⟩
  have hd : (x == y) = false:=beq_eq_false_iff_ne.2 hxy;have pU:=zh hxy;clear hxy;go_wp2_with fail;refine ⟨⟨k + 1,by omega,by go_num,fun j hj => ?_⟩,by simp [intOf]; omega⟩
  by_cases e : j = k
  ·
   rw [e,HY.out]; exact fun e => pU.out e.symm
  exact Hno.out j (by omega)
 obtain rfl : k = n:=by omega
 go_wp2_with fail;go_ret;exact ⟨⟨-1,rfl,by rw [HT.out Hno.out]; rfl⟩,rfl⟩
theorem zCa (v : Value) (l : List Int) (x : Int) (w : World) (h : lJ w v l) :
  Calls Tryz.prog 171 #[v,.int .u64 x] w fun e w' => e = .returned (.bool (l.contains x)) ∧ w = w':=by
 have HX:=zh (zFl v l x w h);obtain ⟨a,cap,rfl,_,_⟩:=h.gl;generalize l.contains x = r at *;clear h
 go_enter Tryz.func171,Tryz.ntmps171
 go_wp2_with fail;refine HX.out.mono ?_; rintro e w1 ⟨⟨k,rfl,hk⟩,rfl⟩;have HK:=zh hk;clear hk;go_wp2_with fail;go_ret;exact ⟨zH HK.out,rfl⟩
def Gone (w : World) (gb : Nat) (gone : List Int) : Prop:=∃ a n cap,w.cell? ⟨gb,0,none⟩ = some (.slice a n cap) ∧ lJ w (.slice a n cap) gone
theorem Gone.below {w w' : World} {gb : Nat} {gone : List Int} (h : Gone w gb gone) (hb : Below w.heap.size w w') : Gone w' gb gone:=by
 obtain ⟨a,n,cap,h1,h2⟩:=h;exact ⟨a,n,cap,Below.keeps hb _ _ h1,h2.below hb⟩
theorem zGc (k c o s : Int) (gb : Nat) (gone : List Int) (w : World) (h : Gone w gb gone) :
  Calls Tryz.prog 170 #[.agg #[.int .u64 k,.int .u32 c,.int .i64 o,.int .i64 s],.pointer (some ⟨gb,0,none⟩)] w fun e w' => e = .returned (.bool (gone.contains k)) ∧ Below w.heap.size w w':=by
 have HW:=zh (show Below w.heap.size w (w.alloc (.cells #[.int .u64 k,.int .u32 c,.int .i64 o,.int .i64 s] 49)) from (aj _ _).alloc (ai _) _);obtain ⟨a,n,cap,h1,h2⟩:=h;have HC:=zh (zCa (.slice a n cap) gone k (w.alloc (.cells #[.int .u64 k,.int .u32 c,.int .i64 o,.int .i64 s] 49)) (h2.below HW.out));have h1':=Below.keeps HW.out _ _ h1;generalize gone.contains k = r at *;clear h2
 go_enter Tryz.func170,Tryz.ntmps170
 go_wp2_with fail;refine HC.out.mono ?_; rintro e w1 ⟨rfl,rfl⟩;go_wp2_with fail;go_ret;exact ⟨rfl,HW.out⟩
def kept (gone : List Int) (l : List It) : List It:=l.filter fun x => !gone.contains x.key
theorem zHw (gone : List Int) {l : List It} {j : Nat} (h : j < l.length) : kept gone (l.take (j + 1)) = kept gone (l.take j) ++ (if gone.contains (d_ l j).key then [] else [d_ l j]):=by
 unfold kept;rw [xH h,cQ]
 congr 1
 cases e : gone.contains (d_ l j).key <;> simp only [cn,List.filter_nil,e] <;> rfl
theorem zFA {gone : List Int} {l : List It} (h : ∀ j,j < l.length → gone.contains (d_ l j).key = false) : kept gone l = l:=by
 unfold kept;rw [List.filter_eq_self];intro x hx;obtain ⟨j,hj,rfl⟩:=uZ hx;rw [h j hj]; rfl
theorem zC2 (y : It) : ∀ (l : List It) (k : Nat),k < l.length → ((((zU l).set (k * 4) (.int .u64 y.key)).set (k * 4 + 1) (.int .u32 y.ck)).set (k * 4 + 2) (.int .i64 y.off)).set (k * 4 + 3) (.int .i64 y.size) = zU (l.set k y)
 | [],_,h => by simp at h
 | x :: r,0,_ => rfl
 | x :: r,k + 1,h => by
  have ih:=zC2 y r k (by simpa using h);have e0 : (k + 1) * 4 = k * 4 + 1 + 1 + 1 + 1:=by omega
  have e1 : (k + 1) * 4 + 1 = k * 4 + 1 + 1 + 1 + 1 + 1:=by omega
  have e2 : (k + 1) * 4 + 2 = k * 4 + 2 + 1 + 1 + 1 + 1:=by omega
  have e3 : (k + 1) * 4 + 3 = k * 4 + 3 + 1 + 1 + 1 + 1:=by omega
  rw [e1,e2,e3,e0]
  show _ = g_ x ++ zU (r.set k y)
  rw [← ih]
  rfl
theorem VE {w : World} {B g n cap : Nat} {l : List It} (h : w.ownsRow B 49 4 (.slice (some ⟨g,0,none⟩) n cap) n (zU l)) (k : Nat) (hk : k < l.length) (y : It) :
  ((((w.setCell ⟨g,k * 4,none⟩ (.int .u64 y.key)).setCell ⟨g,k * 4 + 1,none⟩ (.int .u32 y.ck)).setCell ⟨g,k * 4 + 2,none⟩ (.int .i64 y.off)).setCell ⟨g,k * 4 + 3,none⟩ (.int .i64 y.size)).ownsRow B 49 4 (.slice (some ⟨g,0,none⟩) n cap) n (zU (l.set k y)):=by
 rw [← zC2 y l k hk];exact ((((h.stored _ _).1.stored _ _).1.stored _ _).1.stored _ _).1
theorem uY : ∀ m : Nat,(Builtin.zeroCells (jS fM).cells m).toList = zU (List.replicate m fM)
 | 0 => by simp [Builtin.zeroCells,zU]
 | m + 1 => by
  rw [List.replicate_succ',zt,← uY m,xU]
  show (Array.map _ (Array.range ((m + 1) * 4))).toList = (Array.map _ (Array.range (m * 4))).toList ++ _
  have e : (m + 1) * 4 = m * 4 + 1 + 1 + 1 + 1:=by omega
  rw [e];simp only [Array.toList_map,Array.toList_range,List.range_succ,bE,List.map_cons,List.map_nil,a_]
  congr 1
  show _ = [Value.int .u64 0,.int .u32 0,.int .i64 0,.int .i64 0]
  have s4 : (jS fM).cells.size = 4:=rfl;rw [s4];rw [show m * 4 % 4 = 0 by omega,show (m * 4 + 1) % 4 = 1 by omega,show (m * 4 + 1 + 1) % 4 = 2 by omega,show (m * 4 + 1 + 1 + 1) % 4 = 3 by omega]
  rfl
theorem zIZ {w : World} {B g n cap : Nat} {l : List It} (h : w.ownsRow B 49 4 (.slice (some ⟨g,0,none⟩) n cap) n (zU l)) (i : Nat) (hi : i < n) :
  ∃ w',(∀ ty c,(Builtin.clear_ #[33] ty #[.slice (some ⟨g,i * 4,none⟩) (n - i) c]).run Tryz.prog w = .ok (.tuple #[]) w') ∧ w'.ownsRow B 49 4 (.slice (some ⟨g,0,none⟩) n cap) n (zU (l.take i ++ List.replicate (n - i) fM)) ∧ w.grownBy w' (some g):=by
 have hl : l.length = n:=by have:=h.1; rw [yJ] at this; omega
 obtain ⟨w',h1,h2,h3⟩:=qN (P:=Tryz.prog) h (i * 4) (zU (List.replicate (n - i) fM)) (by rw [yJ,dB]; omega) (zp _);refine ⟨w',fun ty c => ?_,?_,h3⟩
 ·
  obtain ⟨m,hm⟩ : ∃ m,n - i = m + 1:=⟨n - i - 1,by omega⟩
  rw [hm] at h1 ⊢;simp only [Builtin.clear_];simp [run_underlying Tryz.underlying33];have hz:=uY (m + 1);simp only [jS,fM] at hz;rw [hz,show zU (List.replicate (m + 1) ⟨0,0,0,0⟩) = zU (List.replicate (m + 1) fM) from rfl,h1]
  rfl
 rw [zt,xu];rw [bY (by rw [yJ,yJ,dB]; omega),bB] at h2;exact h2
theorem zJo (v : Value) (l : List It) (gb : Nat) (gone : List Int) (w : World) (h : i_ w v l) (hg : Gone w gb gone) :
  Calls Tryz.prog 178 #[v,.func (.func 170) #[] #[.pointer (some ⟨gb,0,none⟩)]] w fun e w' =>
   ((e = .returned (.int .i64 (-1)) ∧ ∀ j,j < l.length → gone.contains (d_ l j).key = false) ∨ ∃ k : Nat,k < l.length ∧ e = .returned (.int .i64 (k : Int)) ∧ gone.contains (d_ l k).key = true ∧ ∀ j,j < k → gone.contains (d_ l j).key = false) ∧ Below w.heap.size w w':=by
 obtain ⟨a,cap,rfl,h1,h2⟩:=h.shape;have hm:=IC h1 h2;have Hg:=zh hg;generalize hn : l.length = n at *;have Hr:=zh h;clear h h1 h2 hn hg
 go_enter Tryz.func178,Tryz.ntmps178
 go_wp2_with fail
 go_loopw [8] (fun i wr => ∃ k : Nat,k ≤ n ∧ i = .int .i64 (k : Int) ∧ (∀ j,j < k → gone.contains (d_ l j).key = false) ∧ Below w.heap.size w wr) (fun i _ => n - (intOf i).toNat)
 case atStart => exact ⟨0,aq _,rfl,fun j hj => absurd hj (by omega),aj _ _⟩
 obtain ⟨k,hk,rfl,hok,hb⟩:=hrel;have mj:=zh hok;have Hb:=zh hb;have hB:=hb.size;clear hok hb
 by_cases hlt : k < n
 ·
  have hr:=Hr.out.below Hb.out;obtain ⟨b,off,rfl,c0,c1,c2,c3⟩:=hr.at hlt;have HV:=zh (zGc (d_ l k).key (d_ l k).ck (d_ l k).off (d_ l k).size gb gone wr (Hg.out.below Hb.out));generalize hx : d_ l k = x at *;have EX:=zh hx;clear hr hx;go_wp2_with fail;refine HV.out.mono ?_; rintro e w1 ⟨rfl,hb1⟩;have lX:=zh (zA Hb.out hb1)
  cases hx : gone.contains x.key
  ·
   have HX:=zh hx;clear hb1 hx;go_wp2_with fail;refine ⟨⟨k + 1,by omega,by go_num,fun j hj => ?_,lX.out⟩,by simp [intOf]; omega⟩
   by_cases e : j = k
   ·
    rw [e,EX.out]; exact HX.out
   exact mj.out j (by omega)
  have HX:=zh hx;clear hb1 hx;go_wp2_with fail;go_ret;exact ⟨.inr ⟨k,hlt,rfl,by rw [EX.out]; exact HX.out,mj.out⟩,lX.out⟩
 obtain rfl : k = n:=by omega
 go_wp2_with fail;go_ret;exact ⟨.inl ⟨rfl,mj.out⟩,Hb.out⟩
theorem zMN (v : Value) (l : List It) (gb : Nat) (gone : List Int) (B : Nat) (w : World) (hown : fu w B v l) (hB : B ≤ w.heap.size) (hg : ∀ W,Below B w W → Gone W gb gone) :
  Calls Tryz.prog 169 #[v,.func (.func 170) #[] #[.pointer (some ⟨gb,0,none⟩)]] w fun e w' => ∃ v',e = .returned v' ∧ fu w' B v' (kept gone l) ∧ Below B w w':=by
 have HI:=zh (zJo v l gb gone w hown.rd (hg w (aj _ _)));have HG:=zh hg;have VF:=zh (show (∀ j,j < l.length → _) → _ from zFA (gone:=gone) (l:=l));have HKS:=zh (show ∀ j,j < l.length → _ from fun j hj => zHw gone (l:=l) (j:=j) hj);have HKE:=zh (show kept gone (l.take l.length) = kept gone l by rw [cm]);obtain ⟨oa,oc,rfl,ho1,ho2,CL⟩:=zM hown;have hm:=IC ho1 ho2;have gQ:=zh (show w.ownsRow B 49 4 _ l.length (zU l) from hown);have Qj:=zh CL;generalize hn : l.length = n at *;have HN:=zh hn;clear hg CL hn hown
 go_enter Tryz.func169,Tryz.ntmps169
 go_wp2_with fail;refine HI.out.mono ?_; rintro e w1 ⟨hres,hb1⟩;have eW:=zh (show Below B w w1 from hb1.mono hB);have lZ:=zh (zI gQ.out hb1);clear hb1;rcases hres with ⟨rfl,hno⟩ | ⟨i0,VG,rfl,Jl,hno⟩
 ·
  have HK:=zh (VF.out hno);clear hno;go_wp2_with fail;go_ret;exact ⟨_,rfl,yO lZ.out (by rw [HK.out]),eW.out⟩
 have hneg : ((i0 : Int) == -1) = false:=beq_eq_false_iff_ne.2 (by omega);have hk0 : kept gone (l.take (i0 + 1)) = l.take i0:=by
  rw [HKS.out i0 VG,Jl];simp only [if_true,bB];refine zFA fun j hj => ?_
  rw [ay] at hj;rw [wn (by omega)];exact hno j (by omega)
 have Mb:=zh hk0;obtain ⟨g,rfl⟩ : ∃ g,oa = some ⟨g,0,none⟩:=by
  rcases lZ.out.2 with ⟨e,h0⟩ | ⟨g,_,_,e,_⟩
  ·
   omega
  injection e with e; exact ⟨g,e⟩
 have hgB:=(lZ.out.lt g rfl).1;clear Jl hno hk0;go_wp2_with fail
 go_loopw [5,6] (fun iv jv wr => ∃ (i j : Nat) (a : List It),iv = .int .i64 (i : Int) ∧ jv = .int .i64 (j : Int) ∧ i < j ∧ j ≤ n ∧ a.length = n ∧ wr.ownsRow B 49 4 (.slice (some ⟨g,0,none⟩) n oc) n (zU a) ∧ a.take i = kept gone (l.take j) ∧ a.drop j = l.drop j ∧ Below B w wr) (fun _ jv _ => n - (intOf jv).toNat)
 case atStart => exact ⟨i0,i0 + 1,l,rfl,by go_num,by omega,by omega,HN.out,lZ.out,Mb.out.symm,rfl,eW.out⟩
 obtain ⟨i,j,a,rfl,rfl,hij,hj,ha,hown,hti,hdj,hb⟩:=hrel;have HA:=zh ha;have HO:=zh hown;have HT:=zh hti;have HD:=zh hdj;have Hb:=zh hb;have Kj : B ≤ wr.heap.size:=ak hB hb.size;have hgr:=(hown.lt g rfl).2;clear ha hown hti hdj hb
 by_cases hlt : j < n
 ·
  obtain ⟨_,_,e,c0,c1,c2,c3⟩:=(yt (zw HO.out)).at hlt;injection e with e; injection e with e1 e2; subst e1 e2;simp only [aJ] at c0 c1 c2 c3;have VH : d_ a j = d_ l j:=by
   have h1:=xo a j 0;rw [HD.out,xo,bu] at h1;exact h1.symm
  rw [VH] at c0 c1 c2 c3;have HKj:=zh (HKS.out j hlt);have HAX:=zh VH;clear VH;generalize d_ l j = x at *;have EG:=zh (show Below B w (wr.alloc (.cells #[.int .u64 x.key,.int .u32 x.ck,.int .i64 x.off,.int .i64 x.size] 49)) from Hb.out.alloc Kj _);have HM:=zh (zGc x.key x.ck x.off x.size gb gone (wr.alloc (.cells #[.int .u64 x.key,.int .u32 x.ck,.int .i64 x.off,.int .i64 x.size] 49)) (HG.out _ EG.out));go_wp2_with fail;refine HM.out.mono ?_; rintro e w2 ⟨rfl,hb2⟩;have gu:=zh (zI (HO.out.alloc _) hb2);have eV:=zh (show Below B w w2 from EG.out.trans (hb2.mono (by simp; omega)));have d0:=Below.keeps hb2 ⟨wr.heap.size,0,none⟩ (.int .u64 x.key) (by simp);have d1:=Below.keeps hb2 ⟨wr.heap.size,1,none⟩ (.int .u32 x.ck) (by simp);have d2:=Below.keeps hb2 ⟨wr.heap.size,2,none⟩ (.int .i64 x.off) (by simp)
  have d3:=Below.keeps hb2 ⟨wr.heap.size,3,none⟩ (.int .i64 x.size) (by simp);have hs2 : B ≤ w2.heap.size:=ak hB eV.out.size;clear hb2 c0 c1 c2 c3
  cases hr : gone.contains x.key
  ·
   have HR:=zh hr;obtain ⟨_,_,e,c0,c1,c2,c3⟩:=(yt (zw gu.out)).at (show i < n by omega);injection e with e; injection e with e1 e2; subst e1 e2;simp only [aJ] at c0 c1 c2 c3;have f0:=gu.out.frozenAt (i * 4);have f1:=gu.out.frozenAt (i * 4 + 1);have f2:=gu.out.frozenAt (i * 4 + 2);have f3:=gu.out.frozenAt (i * 4 + 3);have HS:=zh (VE gu.out i (by rw [HA.out]; omega) x);clear hr;go_wp2_with fail;have hdr : (a.set i x).drop (j + 1) = l.drop (j + 1):=by
    rw [List.drop_set_of_lt (by omega),← bW,HD.out,bW]
   have Tx : (a.set i x).take (i + 1) = kept gone (l.take (j + 1)):=by
    rw [HKj.out,HR.out,← HT.out,uc a i x (by rw [HA.out]; omega)]
    rfl
   refine ⟨⟨i + 1,j + 1,a.set i x,by go_num,by go_num,by omega,by omega,by rw [bC]; exact HA.out,HS.out,Tx,hdr,?_⟩,by simp [intOf]; omega⟩;exact ((((eV.out.setCell hgB _).setCell hgB _).setCell hgB _).setCell hgB _)
  have HR:=zh hr;clear hr;go_wp2_with fail;have hdr : a.drop (j + 1) = l.drop (j + 1):=by
   rw [← bW,HD.out,bW]
  refine ⟨⟨i,j + 1,a,rfl,by go_num,by omega,by omega,HA.out,gu.out,?_,hdr,eV.out⟩,by simp [intOf]; omega⟩;rw [HKj.out,HR.out,HT.out]; simp
 obtain rfl : j = n:=by omega
 obtain ⟨w3,hcl,eu,fh⟩:=zIZ HO.out i (by omega);have lr:=zh (vr eu i (by omega));have gp:=zh (Hb.out.grown fh Kj (by intro r hr; injection hr with hr; omega));have L_:=yX (P:=Tryz.prog) yI (n:=j) (cap:=oc) Qj.out i (by omega);clear eu fh;go_wp2_with fail;go_ret;refine ⟨_,rfl,yO lr.out ?_,gp.out⟩;have hia : i ≤ a.length:=by rw [HA.out]; omega
 rw [← xu,dQ (by rw [ay]; omega),dh,Nat.min_self,HT.out,HKE.out]
def Ty (old fresh : List It) (gone : List Int) : List It:=fE (kept gone (fE old) ++ fE fresh)
theorem zAz (gone : List Int) (l : List It) : (kept gone l).length ≤ l.length:=List.length_filter_le _ _
theorem zIK (vo vf vg : Value) (old fresh : List It) (gone : List Int) (w : World) (ho : i_ w vo old) (hf : i_ w vf fresh) (hg : lJ w vg gone)
  (so : wZ old) (sf : wZ fresh) (sm : wZ (kept gone (fE old) ++ fE fresh)) (h1 : old.length ≤ 100000) (h2 : fresh.length ≤ 100000) :
  Calls Tryz.prog 132 #[vo,vf,vg] w fun e w' => ∃ v',e = .returned v' ∧ fu w' w.heap.size v' (Ty old fresh gone) ∧ Below w.heap.size w w':=by
 have SO:=zh (fun w h => so vo w h);have SF:=zh (fun w h => sf vf w h);have SM:=zh (fun v w h => sm v w h);have HM:=zh (show Ty old fresh gone = fE (kept gone (fE old) ++ fE fresh) from rfl);obtain ⟨a1,c1,rfl,_,_⟩:=ho.shape;obtain ⟨a2,c2,rfl,_,_⟩:=hf.shape;obtain ⟨a3,c3,rfl,_,_⟩:=hg.gl;have l1:=yZ old;have l2:=yZ fresh;have l3:=zAz gone (fE old);generalize fE old = s1 at *;generalize fE fresh = s2 at *;obtain ⟨W0,hW0⟩ : ∃ W0,W0 = w.alloc (.cells #[.slice a3 gone.length c3] 87):=⟨_,rfl⟩
 have EG:=zh hW0;have eQ:=zh (show Below w.heap.size w W0 by rw [hW0]; exact (aj _ _).alloc (ai _) _);have VI:=zh (show Gone W0 w.heap.size gone from ⟨a3,gone.length,c3,by rw [hW0]; simp,hg.below eQ.out⟩);have hs0 : w.heap.size ≤ W0.heap.size:=eQ.out.size;have Ho:=zh ho;have Hf:=zh hf;have HDF:=zh (fun v w' B (h : fu w' B v s1) hB hg => zMN v s1 w.heap.size gone B w' h hB hg);generalize hk : kept gone s1 = k1 at *;have HK:=zh hk;clear ho hf hg so sf sm hW0 hk
 go_enter Tryz.func132,Tryz.ntmps132
 go_wp2_with fail;rw [← EG.out];refine (SO.out _ (Ho.out.below eQ.out)).mono ?_; rintro e w1 ⟨v1,rfl,hown1,hb1⟩;have lZ:=zh hown1;have eW:=zh hb1;clear hown1 hb1;go_wp2_with fail;refine (HDF.out v1 w1 W0.heap.size lZ.out eW.out.size (fun W h => VI.out.below (eW.out.trans h))).mono ?_; rintro e w2 ⟨v2,rfl,eC,hb2⟩;have gu:=zh eC;have eV:=zh (eW.out.trans hb2);have B9:=zh (iT eQ.out hs0 (eW.out.trans hb2));clear eC hb2;go_wp2_with fail;refine (SF.out _ (Hf.out.below B9.out)).mono ?_; rintro e w3 ⟨v3,rfl,eu,hb3⟩;have lr:=zh (zI gu.out hb3);have mo:=zh (t6 eu.rd);have gp:=zh (eV.out.trans (hb3.mono eV.out.size));clear eu hb3;go_wp2_with (at_builtin; go_must (refine zi rfl (.tmp 13) (.tmp 15) 33 rfl yI W0.heap.size rfl lr.out rfl mo.out (zp _) (by unfold maxLen; omega) (by omega) gp.out.size ?_); intro v4 w4 fp gO hv4; clear hv4);have jx:=zh (yO fp (zt k1 s2).symm)
 have fZ:=zh (zL gp.out lr.out gp.out.size gO);clear fp gO;go_wp2_with fail;refine (SM.out _ _ jx.out.rd).mono ?_; rintro e w5 ⟨v5,rfl,f_,hb5⟩;have iV:=zh f_;have gw:=zh (fZ.out.trans (hb5.mono fZ.out.size));clear f_ hb5;go_wp2_with fail;go_ret;refine ⟨_,rfl,?_,eQ.out.trans (gw.out.mono hs0)⟩;rw [HM.out];exact iV.out.mono (ak hs0 fZ.out.size)
end Go.Proofs.YtcgfilmmokmdjaaGreat
namespace Go.Proofs.YtcgfilmmokmdjaaGreat
def gB (l : List It) (key : Int) : List It:=l.filter fun y => !(y.key == key)
theorem zm (y : It) (r : List It) (key : Int) : fJ (y :: r) key = if y.key = key then some y else fJ r key:=by
 unfold fJ;rw [List.find?_cons]
 by_cases h : y.key = key
 ·
  rw [ag h,show (y.key == key) = true from beq_iff_eq.2 h]
 rw [ah h,show (y.key == key) = false from beq_eq_false_iff_ne.2 h]
theorem vX (x : It) : ∀ l : List It,fJ (ins l x) x.key = some x
 | [] => by rw [show ins [] x = [x] from rfl,zm,ag rfl]
 | y :: r => by
  unfold ins
  split
  ·
   rw [zm,ah (by omega)]; exact vX x r
  split <;> rw [zm,ag rfl]
theorem vH (x : It) (key : Int) (h : key ≠ x.key) : ∀ l : List It,fJ (ins l x) key = fJ l key
 | [] => by rw [show ins [] x = [x] from rfl,zm,ah (aR h)]
 | y :: r => by
  have ih:=vH x key h r;unfold ins
  split
  ·
   rw [zm,zm,ih]
  split
  ·
   rw [zm,zm,ah (aR h),ah (by omega)]
  rw [zm,ah (aR h)]
theorem k8 (l : List It) (key : Int) : fJ (gB l key) key = none:=by
 unfold fJ gB;rw [List.find?_eq_none];intro x hx;have:=(List.mem_filter.1 hx).2;simp at this ⊢;exact this
theorem ug (k key : Int) (h : key ≠ k) : ∀ l : List It,fJ (gB l k) key = fJ l key
 | [] => rfl
 | y :: r => by
  have ih:=ug k key h r;unfold gB at ih ⊢;rw [cn]
  by_cases e : y.key = k
  ·
   rw [ah (by simp [e]),zm,ah (by omega),ih]
  rw [ag (by simp [e]),zm,zm,ih]
theorem vV {l : List It} {r : Nat} (h : r < l.length) : l[r] = d_ l r:=by
 unfold d_; rw [aw,aB h]; rfl
theorem tU : ∀ {l : List It},lY l → l.Pairwise fun a b => a.key < b.key
 | [],_ => .nil
 | x :: r,h => by
  have hp:=tU h.tail;refine .cons (fun y hy => ?_) hp
  cases r with
  | nil => cases hy
  | cons z r =>
   have hz : x.key < z.key:=h.1
   cases hy with
   | head => exact hz
   | tail _ hy => have:=(List.pairwise_cons.1 hp).1 y hy; omega
theorem VJ : ∀ {l : List It},(l.Pairwise fun a b => a.key < b.key) → lY l
 | [],_ => trivial
 | [x],_ => trivial
 | x :: y :: r,h => ⟨(List.pairwise_cons.1 h).1 y (by simp),VJ (List.pairwise_cons.1 h).2⟩
theorem VK {l : List It} (h : jX l) (key : Int) : jX (gB l key):=
 (xh _).1 (VJ (List.Pairwise.filter _ (tU ((xh _).2 h))))
theorem zEG {l : List It} (h : jX l) (x : It) : jX (ins l x):=(xh _).1 (qu x l ((xh _).2 h))
theorem uy (l : List It) (key : Int) : (gB l key).length ≤ l.length:=List.length_filter_le _ _
theorem zML {l : List It} {x : It} {r : Nat} (h : Place l x.key r) (ha : jX l) : ins l x = if r < l.length ∧ (d_ l r).key = x.key then l.set r x else l.take r ++ x :: l.drop r:=by
 have:=Ts l x r h.1 (fun j hj => h.lt ha hj) (fun hr => h.2.2 hr);rw [this]
 split
 ·
  rename_i hc;rw [List.set_eq_take_append_cons_drop,ag hc.1]
 rfl
theorem zHc {l : List It} {key : Int} {r : Nat} (h : Place l key r) (ha : jX l) : gB l key = if r < l.length ∧ (d_ l r).key = key then l.take r ++ l.drop (r + 1) else l:=by
 have M9 : ∀ (q : List It),(∀ x ∈ q,x.key ≠ key) → gB q key = q:=fun q hq => by
  unfold gB;rw [List.filter_eq_self];intro x hx;simp;exact hq x hx
 have pw:=tU ((xh _).2 ha)
 split
 ·
  rename_i hc;have e : l = l.take r ++ d_ l r :: l.drop (r + 1):=by
   have e1 : l.drop r = d_ l r :: l.drop (r + 1):=by
    rw [dC hc.1,vV hc.1]
   rw [← e1,bN]
  have pw2:=pw;rw [e,List.pairwise_append] at pw2;obtain ⟨_,p2,p3⟩:=pw2;have h1 : gB (l.take r) key = l.take r:=M9 _ fun y hy => by have:=p3 y hy (d_ l r) (by simp); omega
  have h2 : gB (l.drop (r + 1)) key = l.drop (r + 1):=M9 _ fun y hy => by have:=(List.pairwise_cons.1 p2).1 y hy; omega
  conv => lhs; rw [e]
  unfold gB at h1 h2 ⊢;rw [cQ,h1,cn,ah (by simp [hc.2]),h2]
 rename_i hc;refine M9 _ fun y hy => ?_
 obtain ⟨j,hj,rfl⟩:=uZ hy;rcases bD j r with Pn | Pn
 ·
  have:=h.lt ha Pn; omega
 by_cases VL : j = r
 ·
  subst VL; exact fun e => hc ⟨hj,e⟩
 have h1:=h.2.2 (by omega);have h2 : (d_ l r).key < (d_ l j).key:=by
  have:=List.pairwise_iff_getElem.1 pw r j (by omega) hj (by omega);rw [vV,vV] at this;exact this
 omega
def B_ (d d' : List It) : Prop:=∀ k : Int,d.filter (fun y => y.key == k) = d'.filter (fun y => y.key == k)
theorem B_.refl (d : List It) : B_ d d:=fun _ => rfl
theorem B_.symm {d d' : List It} (h : B_ d d') : B_ d' d:=fun k => (h k).symm
theorem B_.trans {a b c : List It} (h : B_ a b) (h' : B_ b c) : B_ a c:=fun k => (h k).trans (h' k)
theorem B_.app {a a' b b' : List It} (h : B_ a a') (h' : B_ b b') : B_ (a ++ b) (a' ++ b'):=fun k => by rw [cQ,cQ,h k,h' k]
theorem zKA {u v : List It} (h : ∀ x ∈ u,∀ y ∈ v,x.key ≠ y.key) : B_ (u ++ v) (v ++ u):=fun k => by
 rw [cQ,cQ]
 by_cases hu : u.filter (fun y => y.key == k) = []
 ·
  rw [hu]; simp
 obtain ⟨x,hx⟩:=List.exists_mem_of_ne_nil _ hu;obtain ⟨hx1,hx2⟩:=List.mem_filter.1 hx;have hv : v.filter (fun y => y.key == k) = []:=by
  rw [List.filter_eq_nil_iff];intro y hy e;simp at hx2 e;exact h x hx1 y hy (by omega)
 rw [hv]; simp
theorem B_.mem {d d' : List It} (h : B_ d d') {x : It} (hx : x ∈ d) : x ∈ d':=by
 have : x ∈ d.filter (fun y => y.key == x.key):=List.mem_filter.2 ⟨hx,by simp⟩;rw [h x.key] at this;exact (List.mem_filter.1 this).1
def jr (d : List It) (a b : Nat) : List It:=(d.drop a).take (b - a)
theorem yq {d : List It} {a b : Nat} (h : b ≤ d.length) : (jr d a b).length = b - a:=by
 unfold jr; rw [ay,aP]; omega
theorem qZ {d : List It} {a b c : Nat} (h1 : a ≤ b) (h2 : b ≤ c) : jr d a c = jr d a b ++ jr d b c:=by
 unfold jr;rw [show c - a = (b - a) + (c - b) by omega,List.take_add,bW,show a + (b - a) = b by omega]
theorem parts {d : List It} {a b : Nat} (h1 : a ≤ b) : d = d.take a ++ jr d a b ++ d.drop b:=by
 have : d.drop b = (d.drop a).drop (b - a):=by rw [bW]; congr 1; omega
 unfold jr;rw [this,a_,bN,bN]
theorem TB {d : List It} {a b : Nat} (h : b ≤ d.length) {x : It} : x ∈ jr d a b ↔ ∃ j,a ≤ j ∧ j < b ∧ d_ d j = x:=by
 unfold jr
 constructor
 ·
  intro hx;obtain ⟨j,hj,rfl⟩:=uZ hx;rw [ay,aP] at hj;exact ⟨a + j,by omega,by omega,by rw [wn (by omega),xo]⟩
 rintro ⟨j,h1,h2,rfl⟩;have : d_ d j = d_ ((d.drop a).take (b - a)) (j - a):=by
  rw [wn (by omega),xo]; congr 1; omega
 rw [this];have hl : j - a < ((d.drop a).take (b - a)).length:=by rw [ay,aP]; omega
 rw [← vV hl];exact bM hl
structure Moved (d d' : List It) (a b : Nat) : Prop where
 lo : d'.take a = d.take a
 hi : d'.drop b = d.drop b
 mid : B_ (jr d a b) (jr d' a b)
 len : d'.length = d.length
theorem Moved.refl (d : List It) (a b : Nat) : Moved d d a b:=⟨rfl,rfl,.refl _,rfl⟩
theorem Moved.trans {d d' e : List It} {a b : Nat} (h : Moved d d' a b) (h' : Moved d' e a b) : Moved d e a b:=
 ⟨h'.lo.trans h.lo,h'.hi.trans h.hi,h.mid.trans h'.mid,h'.len.trans h.len⟩
theorem zDV {d d' : List It} {a a' : Nat} (h : a ≤ a') (e : d'.take a' = d.take a') : d'.take a = d.take a:=by
 have:=aQ (List.take a) e
 rwa [dh,dh,bJ h] at this
theorem zDz {d d' : List It} {b b' : Nat} (h : b' ≤ b) (e : d'.drop b' = d.drop b') : d'.drop b = d.drop b:=by
 have:=aQ (List.drop (b - b')) e
 rwa [bW,bW,show b' + (b - b') = b by omega] at this
theorem zJP {d d' : List It} {a a' : Nat} (e : d'.take a' = d.take a') : jr d' a a' = jr d a a':=by
 unfold jr;have h1 : ∀ l : List It,(l.drop a).take (a' - a) = (l.take a').drop a:=fun l => by rw [List.drop_take]
 rw [h1,h1,e]
theorem zJq {d d' : List It} {b' b : Nat} (e : d'.drop b' = d.drop b') : jr d' b' b = jr d b' b:=by
 unfold jr; rw [e]
theorem Moved.wide {d d' : List It} {a b a' b' : Nat} (h : Moved d d' a' b') (h1 : a ≤ a') (h2 : a' ≤ b') (h3 : b' ≤ b) : Moved d d' a b:=
 ⟨zDV h1 h.lo,zDz h3 h.hi,by
  rw [qZ (d:=d) h1 (ak h2 h3),qZ (d:=d') h1 (ak h2 h3),qZ (d:=d) h2 h3,qZ (d:=d') h2 h3,zJP h.lo,zJq h.hi]
  exact (B_.refl _).app (h.mid.app (.refl _)),h.len⟩
theorem Moved.B_ {d d' : List It} {a b : Nat} (h : Moved d d' a b) (hab : a ≤ b) : B_ d d':=by
 rw [parts (d:=d) hab,parts (d:=d') hab,h.lo,h.hi];exact (Go.Proofs.YtcgfilmmokmdjaaGreat.B_.app (.app (.refl _) h.mid) (.refl _))
theorem Moved.out {d d' : List It} {a b : Nat} (h : Moved d d' a b) {i : Nat} (hi : i < a ∨ b ≤ i) : d_ d' i = d_ d i:=by
 rcases hi with hi | hi
 ·
  rw [← wn (l:=d') hi,h.lo,wn hi]
 have e : ∀ l : List It,d_ l i = d_ (l.drop b) (i - b):=fun l => by rw [xo]; congr 1; omega
 rw [e d',h.hi,← e d]
theorem Moved.src {d d' : List It} {a b : Nat} (h : Moved d d' a b) (hb : b ≤ d.length) {i : Nat} (h1 : a ≤ i) (h2 : i < b) : ∃ j,a ≤ j ∧ j < b ∧ d_ d' i = d_ d j:=by
 have hm : d_ d' i ∈ jr d' a b:=(TB (by rw [h.len]; exact hb)).2 ⟨i,h1,h2,rfl⟩;obtain ⟨j,h3,h4,h5⟩:=(TB hb).1 (h.mid.symm.mem hm);exact ⟨j,h3,h4,h5.symm⟩
def iK (d : List It) (a b : Nat) : Prop:=∀ i j,a ≤ i → i < j → j < b → (d_ d i).key ≤ (d_ d j).key
def eN (d : List It) (s m e : Nat) : List It:=d.take s ++ (jr d m e ++ jr d s m) ++ d.drop e
theorem qp {d : List It} {s m e : Nat} (h1 : s ≤ m) (h2 : m ≤ e) (h3 : e ≤ d.length) (hk : ∀ i,s ≤ i → i < m → ∀ j,m ≤ j → j < e → (d_ d i).key ≠ (d_ d j).key) : Moved d (eN d s m e) s e:=by
 have l1 : (d.take s).length = s:=by rw [ay]; omega
 have l2 : (jr d m e ++ jr d s m).length = e - s:=by rw [ax,yq h3,yq (by omega)]; omega
 have Kk : s ≤ e:=by omega
 have e1 : (eN d s m e).take s = d.take s:=by unfold eN; rw [a_]; exact cE l1
 have e2 : (eN d s m e).drop e = d.drop e:=by unfold eN; exact List.drop_left' (by rw [ax,l1,l2]; omega)
 have e3 : jr (eN d s m e) s e = jr d m e ++ jr d s m:=by
  have hr : eN d s m e = d.take s ++ ((jr d m e ++ jr d s m) ++ d.drop e):=by unfold eN; rw [a_]
  show ((eN d s m e).drop s).take (e - s) = _
  rw [hr,List.drop_left' l1];exact cE l2
 refine ⟨e1,e2,?_,?_⟩
 ·
  rw [e3,qZ h1 h2];refine zKA fun x hx y hy => ?_
  obtain ⟨i,i1,i2,rfl⟩:=(TB (by omega)).1 hx;obtain ⟨j,j1,j2,rfl⟩:=(TB h3).1 hy;exact hk i i1 i2 j j1 j2
 unfold eN;rw [ax,ax,l1,l2,aP]; omega
theorem xI {u v : List It} {i : Nat} (h : i < u.length) : d_ (u ++ v) i = d_ u i:=by
 unfold d_;rw [aw,aw,dP h]
theorem zx {u v : List It} {i : Nat} (h : u.length ≤ i) : d_ (u ++ v) i = d_ v (i - u.length):=by
 unfold d_;rw [aw,aw,dw h]
theorem zGj {d : List It} {a b i : Nat} (h : i < b - a) : d_ (jr d a b) i = d_ d (a + i):=by
 unfold jr; rw [wn h,xo]
theorem vK {d : List It} {s m e : Nat} (h1 : s ≤ m) (h2 : m ≤ e) (h3 : e ≤ d.length) {i : Nat} (i1 : s ≤ i) (i2 : i < s + (e - m)) : d_ (eN d s m e) i = d_ d (m + (i - s)):=by
 have l1 : (d.take s).length = s:=by rw [ay]; omega
 have l3 : (jr d m e).length = e - m:=yq h3;have l4 : (jr d s m).length = m - s:=yq (by omega);unfold eN;rw [xI (by rw [ax,ax,l1,l3,l4]; omega),zx (by omega),l1,xI (by omega),zGj (by omega)]
theorem vJ {d : List It} {s m e : Nat} (h1 : s ≤ m) (h2 : m ≤ e) (h3 : e ≤ d.length) {i : Nat} (i1 : s + (e - m) ≤ i) (i2 : i < e) : d_ (eN d s m e) i = d_ d (s + (i - (s + (e - m)))):=by
 have l1 : (d.take s).length = s:=by rw [ay]; omega
 have l3 : (jr d m e).length = e - m:=yq h3;have l4 : (jr d s m).length = m - s:=yq (by omega);unfold eN;rw [xI (by rw [ax,ax,l1,l3,l4]; omega),zx (by omega),l1,zx (by omega),l3,zGj (by omega)]
 congr 2; omega
theorem zLH {d d2 d3 : List It} {a c b : Nat} (h1 : a ≤ c) (h2 : c ≤ b) (hb : b ≤ d.length) (m2 : Moved d d2 a c) (n2 : iK d2 a c) (m3 : Moved d2 d3 c b) (n3 : iK d3 c b)
  (hx : ∀ i,a ≤ i → i < c → ∀ j,c ≤ j → j < b → (d_ d i).key ≤ (d_ d j).key) : Moved d d3 a b ∧ iK d3 a b:=by
 refine ⟨(m2.wide (ai _) h1 h2).trans (m3.wide h1 h2 (ai _)),fun i j i1 ij j2 => ?_⟩;rcases bD i c with hic | hic
 ·
  rw [m3.out (Or.inl hic)];rcases bD j c with TC | TC
  ·
   rw [m3.out (Or.inl TC)]; exact n2 i j i1 ij TC
  obtain ⟨i',i3,i4,e1⟩:=m2.src (by omega) i1 hic;obtain ⟨j',j3,j4,e2⟩:=m3.src (by rw [m2.len]; omega) TC j2;rw [e1,e2,m2.out (Or.inr j3)];exact hx i' i3 i4 j' j3 j4
 exact n3 i j hic ij j2
theorem VM {d : List It} {a s m e b c : Nat} (h0 : a ≤ s) (h1 : s ≤ m) (h2 : m ≤ e) (h3 : e ≤ b) (hb : b ≤ d.length) (hc : c = s + (e - m)) (na : iK d a m) (nb : iK d m b)
  (H1 : ∀ i,a ≤ i → i < s → ∀ j,e ≤ j → j < b → (d_ d i).key ≤ (d_ d j).key) (H2 : ∀ i,s ≤ i → i < m → ∀ j,m ≤ j → j < e → (d_ d j).key < (d_ d i).key) :
  Moved d (eN d s m e) a b ∧ iK (eN d s m e) a s ∧ iK (eN d s m e) s c ∧ iK (eN d s m e) c e ∧ iK (eN d s m e) e b ∧
  ∀ i,a ≤ i → i < c → ∀ j,c ≤ j → j < b → (d_ (eN d s m e) i).key ≤ (d_ (eN d s m e) j).key:=by
 subst hc;have M:=qp h1 h2 (ak h3 hb) (fun i i1 i2 j j1 j2 => by have:=H2 i i1 i2 j j1 j2; omega);have o : ∀ {i},i < s ∨ e ≤ i → d_ (eN d s m e) i = d_ d i:=fun h => M.out h
 have r1 : ∀ {i},s ≤ i → i < s + (e - m) → d_ (eN d s m e) i = d_ d (m + (i - s)):=fun i1 i2 => vK h1 h2 (ak h3 hb) i1 i2
 have r2 : ∀ {i},s + (e - m) ≤ i → i < e → d_ (eN d s m e) i = d_ d (s + (i - (s + (e - m)))):=fun i1 i2 => vJ h1 h2 (ak h3 hb) i1 i2
 refine ⟨M.wide h0 (by omega) h3,fun i j i1 ij j2 => ?_,fun i j i1 ij j2 => ?_,fun i j i1 ij j2 => ?_,fun i j i1 ij j2 => ?_,fun i i1 i2 j j1 j2 => ?_⟩
 ·
  rw [o (Or.inl (by omega)),o (Or.inl j2)]; exact na i j i1 ij (by omega)
 ·
  rw [r1 i1 (by omega),r1 (by omega) j2]; exact nb _ _ (by omega) (by omega) (by omega)
 ·
  rw [r2 i1 (by omega),r2 (by omega) j2]; exact na _ _ (by omega) (by omega) (by omega)
 ·
  rw [o (Or.inr i1),o (Or.inr (by omega))]; exact nb i j (by omega) ij j2
 rcases bD i s with is | is
 ·
  rw [o (Or.inl is)];rcases bD j e with je | je
  ·
   rw [r2 j1 je]; exact na _ _ i1 (by omega) (by omega)
  rw [o (Or.inr je)]; exact H1 i i1 is j je j2
 rw [r1 is i2];rcases bD j e with je | je
 ·
  rw [r2 j1 je]; exact Int.le_of_lt (H2 _ (by omega) (by omega) _ (by omega) (by omega))
 rw [o (Or.inr je)]; exact nb _ _ (by omega) (by omega) j2
end Go.Proofs.YtcgfilmmokmdjaaGreat
