/- A part of the walk. -/
import Derived.Test.YtcgfilmmokmdjaaGreatQAJ
import Derived.Test.YtcgfilmmokmdjaaGreatQAI
import Derived.Test.YtcgfilmmokmdjaaGreatQAA
import Derived.Test.YtcgfilmmokmdjaaGreatGv
import Derived.Test.YtcgfilmmokmdjaaGreatQAG
import Derived.StillTailTactics
import Derived.Deep.Quiet
import Derived.BigQuiet
import Derived.Test.YtcgfilmmokmdjaaGreatBase
set_option linter.all false
set_option maxRecDepth 100000
set_option maxHeartbeats 32000000
namespace Go.Proofs.YtcgfilmmokmdjaaGreat
open Go.RowKit
theorem eZ.Ri {w : World} {B : Nat} {s : Sl} {f g : Nat → List It} (h : eZ w B s f) (e : ∀ i,i < 8 → g i = f i) : eZ w B s g:=fun i hi => by rw [e i hi]; exact h i hi
theorem eR.Ri {w' : World} {B : Nat} {s s' : Sl} {f0 f g : Nat → List It} (h : eR w' B s f0 s' f) (e : ∀ i,i < 8 → g i = f i) : eR w' B s f0 s' g:=by
 rcases h with ⟨h1,h2⟩ | h
 ·
  exact .inl ⟨h1,fun i hi => (e i hi).trans (h2 i hi)⟩
 exact .inr (h.Ri e)
theorem eR.pts {w : World} {B b : Nat} {s s' : Sl} {f f' : Nat → List It} (h : eR w B s f s' f') (hb : b < B) (vs : List (Nat × Value)) : eR (Go.Proofs.YtcgfilmmokmdjaaGreat.pts w b vs) B s f s' f':=h.imp id fun h => h.pts hb vs
theorem zJ3 (s : Sl) (M : Mp) (x : It) (w : World) (h : fq w s M.st) (hs : ∀ i,i < 8 → (M.st i).length ≤ 9000) :
  Calls Tryz.prog 83 #[yK s M.live M.dZ,jS x] w fun e w' => (∃ s',e = .returned (yK s' (wX M x).live (wX M x).dZ) ∧ eR w' w.heap.size s M.st s' (wX M x).st) ∧ Below w.heap.size w w':=by
 have e:=zJF M x;refine (zHz s M x w h hs).mono ?_;rintro e' w' ⟨⟨s',rfl,ho⟩,hb⟩;exact ⟨⟨s',by rw [e.l,e.g],ho.Ri e.st⟩,hb⟩
theorem zEX (s : Sl) (M : Mp) (key : Int) (w : World) (h : fq w s M.st) (hs : ∀ i,i < 8 → (M.st i).length ≤ 9000) :
  Calls Tryz.prog 82 #[yK s M.live M.dZ,.int .u64 key] w fun e w' => (∃ s',e = .returned (yK s' (yP M key).live (yP M key).dZ) ∧ eR w' w.heap.size s M.st s' (yP M key).st) ∧ Below w.heap.size w w':=by
 have e:=zIl M key;refine (zHf s M key w h hs).mono ?_;rintro e' w' ⟨⟨s',rfl,ho⟩,hb⟩;exact ⟨⟨s',by rw [e.l,e.g],ho.Ri e.st⟩,hb⟩
def Rj (w0 : World) (s : Sl) (f : Nat → List It) (p : Int × Gn) (e : Ending) (w' : World) : Prop:=(∃ s',e = .returned (.tuple #[zV p.2.num p.2.rev p.2.mode p.2.size s' p.2.m.live p.2.m.dZ,.int .i64 p.1]) ∧ eR w' w0.heap.size s f s' p.2.m.st) ∧ Below w0.heap.size w0 w'
/-! ### The eo ends, plain -/
def PD (l : List It) (size : Int) : Bool:=(List.range l.length).all fun i => decide (uK (d_ l i) ≤ size) && (List.range l.length).all fun k => decide (k = i) || !(decide ((d_ l i).off ≤ (d_ l k).off) && decide ((d_ l k).off < uK (d_ l i)))
theorem zDC (l : List It) (size : Int) : PD l size = true ↔ ∀ i,i < l.length → uK (d_ l i) ≤ size ∧ ∀ k,k < l.length → k ≠ i → ¬ ((d_ l i).off ≤ (d_ l k).off ∧ (d_ l k).off < uK (d_ l i)):=by
 unfold PD;rw [dJ];refine ⟨fun h i hi => ?_,fun h i hi => ?_⟩
 ·
  have h1:=h i (List.mem_range.2 hi);rw [aO,aS,dJ] at h1;refine ⟨h1.1,fun k hk hne hc => ?_⟩;have h2:=h1.2 k (List.mem_range.2 hk);rw [aC hne,aD hc.1,aD hc.2] at h2
  cases h2
 obtain ⟨h1,h2⟩:=h i (List.mem_range.1 hi);rw [aO,aS,dJ];refine ⟨h1,fun k hk => ?_⟩
 by_cases e : k = i
 ·
  rw [aD e]; rfl
 rw [aC e,Bool.false_or,Bool.not_eq_true',Bool.and_eq_false_iff,decide_eq_false_iff_not,decide_eq_false_iff_not];have:=h2 k (List.mem_range.1 hk) e;omega
theorem zKK {l : List It} (hok : ∀ x ∈ l,A8 x) (size : Int) : PD l size = uC l size:=by
 refine Bool.eq_iff_iff.2 ((zDC l size).trans (Iff.trans ?_ (decide_eq_true_iff (p:=kC l size)).symm));have hm : ∀ i,(h : i < l.length) → d_ l i = l[i]:=fun i h => by unfold d_; rw [aw,aB h]; rfl
 constructor
 ·
  intro h;refine ⟨List.pairwise_iff_getElem.2 fun i j hi hj hij => ?_,fun x hx => ?_⟩
  ·
   have h1:=(h i hi).2 j hj (by omega);have h2:=(h j hj).2 i hi (by omega);rw [hm i hi,hm j hj] at h1 h2;unfold Kt;omega
  obtain ⟨i,hi,rfl⟩:=b7 hx;have:=(h i hi).1
  rwa [hm i hi] at this
 rintro ⟨hp,hs⟩ i hi;rw [hm i hi];refine ⟨hs _ (bM hi),fun k hk e => ?_⟩;rw [hm k hk];have gi:=tH (hok _ (bM hi));have gk:=tH (hok _ (bM hk));rcases Nat.lt_or_gt_of_ne e with hlt | hlt
 ·
  have:=List.pairwise_iff_getElem.1 hp k i hk hi hlt;unfold Kt at this;omega
 have:=List.pairwise_iff_getElem.1 hp i k hi hk hlt;unfold Kt at this;omega
theorem i_.Rk {w : World} {b off n cap : Nat} {l : List It} (h : i_ w (.slice (some ⟨b,off,none⟩) n cap) l) {j : Nat} (hj : j < n) : w.cell? ⟨b,off + j * 4 + 2,none⟩ = some (.int .i64 (d_ l j).off):=by
 obtain ⟨b',o',e,c0,c1,c2,c3⟩:=h.at hj;injection e with e;injection e with e1 e2;subst e1 e2;exact c2
theorem zHY (v : Value) (l : List It) (size : Int) (w : World) (h : i_ w v l) (hok : ∀ x ∈ l,A8 x) (hsm : l.length ≤ 1000000) :
  Calls Tryz.prog 122 #[v,.int .i64 size] w fun e w' => e = .returned (.bool (PD l size)) ∧ Below w.heap.size w w':=by
 have HE:=zh (zDC l size);have C_:=zh (fun i (hi : i < l.length) => hok (d_ l i) (qV hi));generalize PD l size = res at *;clear hok;obtain ⟨a,cap,rfl,h1,h2⟩:=h.shape;have hm:=IC h1 h2;have Hr:=zh h;clear h;generalize hn : l.length = n at *;clear hn h1 h2
 go_enter Tryz.func122,Tryz.ntmps122
 go_wp2_with fail
 go_loopw [5] (fun iv W => ∃ i : Nat,iv = .int .i64 (i : Int) ∧ i ≤ n ∧ Hid (∀ j,j < i → uK (d_ l j) ≤ size ∧ ∀ k,k < n → k ≠ j → ¬ ((d_ l j).off ≤ (d_ l k).off ∧ (d_ l k).off < uK (d_ l j))) ∧ Hid (Below w.heap.size w W)) (fun iv _ => n - (intOf iv).toNat)
 case atStart => exact ⟨0,rfl,aq _,zh (fun j hj => by omega),zh (aj _ _)⟩
 obtain ⟨i,rfl,hi,HI,HB⟩:=hrel
 by_cases hlt : i < n
 ·
  obtain ⟨b,off,rfl,c0,c1,c2,c3⟩:=(Hr.out.below HB.out).at hlt;have hx:=C_.out i hlt;have hsl : eP (d_ l i).size.toNat ≤ 4127:=xt _;have hx1:=hx.2.2.1;have hz0 : ((d_ l i).size.toNat : Int) = (d_ l i).size:=Int.toNat_of_nonneg hx.2.2.2.1;have HZ:=zh (fun W => Qz (d_ l i).size.toNat W);rw [hz0] at HZ;have Xw:=zh (show uK (d_ l i) = (d_ l i).off + (eP (d_ l i).size.toNat : Int) from rfl);have i1 : (i : Int) < (n : Int):=by omega
  have hxo : 16 ≤ (d_ l i).off ∧ (d_ l i).off ≤ 1048576:=⟨hx.1,hx.2.1⟩
  have Ky:=zh (fun W => show Calls Tryz.prog 28 #[.int .i64 (d_ l i).size] W fun e w' => e = .returned (.int .i64 (eP (d_ l i).size.toNat : Int)) ∧ Below W.heap.size W w' from (HZ.out W).mono fun e w' hh => ⟨hh.1,hh.2 ▸ aj _ _⟩);have y2:=zB c2;have y3:=zB c3;clear HZ hx;generalize eP (d_ l i).size.toNat = z at *;go_wp2_with fail;refine zC (by kernel_rfl) (by kernel_rfl) ?_
  repeat (go_big_quiet_step (exact zE (Ky.out _)))
  refine aA ?_;intro w2 hw2;obtain ⟨q,hw2⟩:=hw2;subst hw2;have eV:=zh (zA HB.out q.h);generalize q.w' = w2 at *;clear q y2 y3 Ky c0 c1 c2 c3;obtain ⟨en,hen⟩ : ∃ en : Int,(d_ l i).off + (z : Int) = en:=⟨_,rfl⟩
  have alQ : 16 ≤ en ∧ en ≤ 2097152:=by omega
  have Kz:=zh (Xw.out.trans hen)
  by_cases hsz : size < en
  ·
   have e0 : decide (size < (d_ l i).off + (z : Int)) = true:=by rw [hen]; exact aD hsz
   go_wp2_with fail;go_ret;refine ⟨zH ?_,eV.out⟩
   symm
   rw [← Bool.not_eq_true,HE.out];intro hh;have:=(hh i hlt).1;rw [Kz.out] at this;omega
  have e0 : decide (size < (d_ l i).off + (z : Int)) = false:=by rw [hen]; exact aC hsz
  rw [hen] at e0;go_wp2_with fail;clear e0;have Kq:=Kz
  go_loopw [7] (fun kv W => ∃ k : Nat,kv = .int .i64 (k : Int) ∧ k ≤ n ∧ Hid (∀ j,j < k → j ≠ i → ¬ ((d_ l i).off ≤ (d_ l j).off ∧ (d_ l j).off < uK (d_ l i))) ∧ Hid (Below w.heap.size w W)) (fun kv _ => n - (intOf kv).toNat)
  case atStart => exact ⟨0,rfl,aq _,zh (fun j hj => by omega),eV⟩
  obtain ⟨k,rfl,hk,HK,gp⟩:=hrel;clear eV
  by_cases hkn : k < n
  ·
   have ci:=(Hr.out.below gp.out).Rk hlt;have ck:=(Hr.out.below gp.out).Rk hkn;have yi:=zB ci;have yk:=zB ck;have i2 : (k : Int) < (n : Int):=by omega
   clear ci ck
   by_cases hki : k = i
   ·
    have e1 : ((k : Int) != (i : Int)) = false:=by rw [hki]; simp
    have alR : ¬ k ≠ i:=by omega
    have hle : k = i:=hki;clear hki;go_wp2_with fail;refine zC (by kernel_rfl) (by kernel_rfl) ?_
    repeat (go_big_quiet_step (fail))
    refine aA ?_;intro w4 hw4;obtain ⟨q,hw4⟩:=hw4;subst hw4;have fZ:=zh (zA gp.out q.h);generalize q.w' = w4 at *;clear q yi yk;go_wp2_with fail
    go_roundw
    case rel => exact ⟨k + 1,by go_num,by omega,zh (fun j hj hne hc => by
     by_cases e : j = k
     ·
      subst e
      have h1:=hc.1
      have h2:=hc.2
      rw [Kz.out] at h2
      omega
     exact HK.out j (by omega) hne hc),fZ⟩
    case measure => simp [intOf]; omega
   have e1 : ((k : Int) != (i : Int)) = true:=bne_iff_ne.2 (by omega)
   by_cases hge : (d_ l i).off ≤ (d_ l k).off
   ·
    have e2 : decide ((d_ l i).off ≤ (d_ l k).off) = true:=aD hge
    by_cases hlk : (d_ l k).off < en
    ·
     have e3 : decide ((d_ l k).off < en) = true:=aD hlk;go_wp2_with fail;refine zC (by kernel_rfl) (by kernel_rfl) ?_
     repeat (go_big_quiet_step (fail))
     refine aA ?_;intro w4 hw4;obtain ⟨q,hw4⟩:=hw4;subst hw4;have fZ:=zh (zA gp.out q.h);generalize q.w' = w4 at *;clear q yi yk;go_wp2_with fail;go_ret;refine ⟨zH ?_,fZ.out⟩
     symm
     rw [← Bool.not_eq_true,HE.out];intro hh;exact (hh i hlt).2 k hkn hki ⟨hge,by rw [Kz.out]; exact hlk⟩
    have e3 : decide ((d_ l k).off < en) = false:=aC hlk;go_wp2_with fail;refine zC (by kernel_rfl) (by kernel_rfl) ?_
    repeat (go_big_quiet_step (fail))
    refine aA ?_;intro w4 hw4;obtain ⟨q,hw4⟩:=hw4;subst hw4;have fZ:=zh (zA gp.out q.h);generalize q.w' = w4 at *;clear q yi yk;go_wp2_with fail
    go_roundw
    case rel => exact ⟨k + 1,by go_num,by omega,zh (fun j hj hne hc => by
     by_cases e : j = k
     ·
      subst e
      have h1:=hc.1
      have h2:=hc.2
      rw [Kz.out] at h2
      omega
     exact HK.out j (by omega) hne hc),fZ⟩
    case measure => simp [intOf]; omega
   have e2 : decide ((d_ l i).off ≤ (d_ l k).off) = false:=aC hge;go_wp2_with fail;refine zC (by kernel_rfl) (by kernel_rfl) ?_
   repeat (go_big_quiet_step (fail))
   refine aA ?_;intro w4 hw4;obtain ⟨q,hw4⟩:=hw4;subst hw4;have fZ:=zh (zA gp.out q.h);generalize q.w' = w4 at *;clear q yi yk;go_wp2_with fail
   go_roundw
   case rel => exact ⟨k + 1,by go_num,by omega,zh (fun j hj hne hc => by
    by_cases e : j = k
    ·
     subst e
     have h1:=hc.1
     have h2:=hc.2
     rw [Kz.out] at h2
     omega
    exact HK.out j (by omega) hne hc),fZ⟩
   case measure => simp [intOf]; omega
  obtain rfl : k = n:=by omega
  go_wp2_with fail
  go_roundw
  case rel => exact ⟨i + 1,by go_num,by omega,zh (fun j hj => by
   by_cases e : j = i
   ·
    subst e
    exact ⟨by rw [Kz.out]; omega,fun k hk hne => HK.out k hk hne⟩
   exact HI.out j (by omega)),gp⟩
  case measure => simp [intOf]; omega
 obtain rfl : i = n:=by omega
 go_wp2_with fail;go_ret;refine ⟨zH ?_,HB.out⟩
 symm
 rw [HE.out];exact HI.out
end Go.Proofs.YtcgfilmmokmdjaaGreat
namespace Go.Proofs.YtcgfilmmokmdjaaGreat
open Go Go.RowKit
section
variable {P : Program} {ops : Array Oper} {md : Region.Mode}
def zW (ops : Array Oper) (j : Nat) : Option Tmp:=(ops[j]?).bind (·.dst)
def fD (ops : Array Oper) (a0 : Act) (f : Nat → Value) : Nat → Act
 | 0 => a0
 | n + 1 => (fD ops a0 f n).put (zW ops n) (f n)
def xP (f : Nat → Value) (i : Nat) (v : Value) : Nat → Value:=fun j => if j = i then v else f j
theorem zK4 (a : Act) (d : Option Tmp) (u v : Value) : (a.put d u).put d v = a.put d v:=by
 cases d with
 | none => rfl
 | some d => simp [Act.put]
theorem put_comm (a : Act) (d e : Option Tmp) (u v : Value) (h : d = none ∨ d ≠ e) : (a.put d u).put e v = (a.put e v).put d u:=by
 cases d with
 | none => rfl
 | some d =>
  cases e with
  | none => rfl
  | some e =>
   have hne : d ≠ e:=by
    rcases h with h | h
    ·
     cases h
    exact fun e1 => h (by rw [e1])
   simp only [Act.put];rw [Array.setIfInBounds_comm _ _ hne]
theorem zFI (ops : Array Oper) (a0 : Act) (f : Nat → Value) (i : Nat) (v : Value) : ∀ n,n ≤ i → fD ops a0 (xP f i v) n = fD ops a0 f n
 | 0,_ => rfl
 | n + 1,h => by
  show (fD ops a0 (xP f i v) n).put _ (xP f i v n) = _
  rw [zFI ops a0 f i v n (by omega)];have : xP f i v n = f n:=ah (by omega);rw [this]; rfl
theorem qQ (ops : Array Oper) (a0 : Act) (f : Nat → Value) (i : Nat) (v : Value) : ∀ n,i < n → (∀ j,j < n → j ≠ i → zW ops i = none ∨ zW ops i ≠ zW ops j) → (fD ops a0 f n).put (zW ops i) v = fD ops a0 (xP f i v) n
 | 0,h,_ => by omega
 | n + 1,h,hd => by
  show ((fD ops a0 f n).put (zW ops n) (f n)).put (zW ops i) v = (fD ops a0 (xP f i v) n).put (zW ops n) (xP f i v n)
  by_cases e : i = n
  ·
   subst e;rw [zK4,zFI ops a0 f i v i (ai _)];have : xP f i v i = v:=ag rfl;rw [this]
  have h1 : zW ops n = none ∨ zW ops n ≠ zW ops i:=by
   rcases hd n (by omega) (fun e1 => e e1.symm) with h | h
   ·
    cases hn : zW ops n with
    | none => exact .inl rfl
    | some d => exact .inr (by rw [h]; simp)
   exact .inr (aR h)
  rw [put_comm _ _ _ _ _ h1,qQ ops a0 f i v n (by omega) fun j hj hji => hd j (by omega) hji];have : xP f i v n = f n:=ah (by omega);rw [this]
theorem PE (ops : Array Oper) (a0 : Act) : ∀ n,fD ops a0 (fun j => match zW ops j with | some d => a0.tmps.getD d undef | none => undef) n = a0
 | 0 => rfl
 | n + 1 => by
  show (fD ops a0 _ n).put (zW ops n) _ = a0
  rw [PE ops a0 n]
  cases hd : zW ops n with
  | none => rfl
  | some d =>
   simp only [hd];obtain ⟨t,ds⟩:=a0;simp only [Act.put]
   congr 1
   apply Array.ext_getElem?;intro i
   by_cases e : d = i
   ·
    subst e;rw [Array.getElem?_setIfInBounds_self]
    split
    ·
     rename_i h; simp [h]
    rename_i h; rw [Array.getElem?_eq_none (by omega)]
   rw [Array.getElem?_setIfInBounds_ne e]
def T3 (md : Region.Mode) (ops : Array Oper) (n : Nat) : Bool:=
 decide (n < ops.size) && Region.sinkB md ops n && Region.chainB md ops n &&
 ((List.range n).all fun i => ((ops[i]?).map fun o => o.dst.isSome && o.after.all fun e => !Region.binds md e || decide (e.on < i)).getD false) &&
 ((List.range n).all fun i => (List.range n).all fun j => decide (i = j) || decide (zW ops i ≠ zW ops j)) &&
 Region.seqB md ops (ops.size - n) n ((List.range ops.size).map fun j => decide (j < n)).toArray
variable {Q : Exit → Act → World → Prop}
def blk : Value → Nat
 | .pointer (some a) => a.block
 | _ => 0
def tY (B0 : Value → World → Prop) (F : Prop) (ds : List Deferred) (d : Option Tmp) (w : World) (a' : Act) (w' : World) : Prop:=
 a'.defers = ds ∧ Below w.heap.size w w' ∧ ∀ t,d = some t → B0 (a'.tmps.getD t undef) w' ∧ (F → w.heap.size ≤ blk (a'.tmps.getD t undef) ∧ blk (a'.tmps.getD t undef) < w'.heap.size)
theorem k5 {o : Oper} {a : Act} {w : World} {R : Act → World → Prop} (h : wpList P ops (Exit.then R Q) [o] a w) {K : Act → World → Prop}
  (hK : ∀ v w',R (a.put o.dst v) w' → K (a.put o.dst v) w') (hD : ∀ d v w',R ({ a with defers:=d :: a.defers }.put o.dst v) w' → False) :
  if Region.wanted o (yielded ops a.tmps) then o.wp P a w K Q ∨ (o.asks P a w ∧ LetsOut Q) else K (a.put o.dst undef) w:=by
 unfold wpList at h
 split at h
 ·
  rename_i hw;rw [ag hw];rcases h with h | ⟨h1,h2⟩
  ·
   left
   unfold Oper.wp at h ⊢;generalize (execOp a.eval o).run P w = r at *
   cases r with
   | ok nx w' =>
    cases nx with
    | value v => exact hK _ _ h
    | skip => exact hK _ _ h
    | defer d => exact absurd h (hD _ _ _)
    | enter f args =>
     refine Calls.mono h fun e w'' he => ?_
     cases e with
     | returned v => exact hK _ _ he
     | panicked c => exact he
     | outgrown => exact he
    | row r args => exact Rows.mono h fun v w'' he => hK _ _ he
    | _ => exact h
   | halt x w' => cases x <;> first | exact h | exact False.elim h
  exact .inr ⟨h1,h2⟩
 rename_i hw;rw [ah hw];exact hK _ _ h
theorem qH {T : List Nat} (h : T ≠ []) : ∃ m,m ∈ T ∧ ∀ k ∈ T,m ≤ k:=by
 induction T with
 | nil => exact absurd rfl h
 | cons x r ih =>
  by_cases hr : r = []
  ·
   subst hr; exact ⟨x,by simp,fun k hk => by simp at hk; omega⟩
  obtain ⟨m,hm,hle⟩:=ih hr
  by_cases hx : x ≤ m
  ·
   exact ⟨x,by simp,fun k hk => by
    rcases List.mem_cons.1 hk with rfl | hk
    ·
     exact ai _
    exact ak hx (hle k hk)⟩
  exact ⟨m,by simp [hm],fun k hk => by
   rcases List.mem_cons.1 hk with rfl | hk
   ·
    omega
   exact hle k hk⟩
theorem ut (ops : Array Oper) (a0 : Act) (f : Nat → Value) : ∀ n,(fD ops a0 f n).tmps.size = a0.tmps.size
 | 0 => rfl
 | n + 1 => by
  show ((fD ops a0 f n).put (zW ops n) (f n)).tmps.size = _
  rw [← ut ops a0 f n]
  cases zW ops n <;> simp [Act.put]
theorem zLL {n : Nat} {a0 : Act} {w0 : World} {Φ : Nat → Value → World → Prop} {F : Nat → Prop} {l : List Oper} (hl : ops = l.toArray) (hB : T3 md ops n = true) (hN : ∀ i,i < n → ∀ t,zW ops i = some t → t < a0.tmps.size)
  (mono : ∀ j,j < n → ∀ v w1 w2,Below w1.heap.size w1 w2 → Φ j v w1 → Φ j v w2)
  (head : ∀ i o,i < n → ops[i]? = some o → ∀ f w1,Below w0.heap.size w0 w1 → (∀ e ∈ o.after,Region.binds md e = true → Φ e.on (f e.on) w1) →
   wpList P ops (Exit.then (tY (Φ i) (F i) (fD ops a0 f n).defers o.dst w1) Q) [o] (fD ops a0 f n) w1)
  (tail : ∀ f w1,Below w0.heap.size w0 w1 → (∀ j,j < n → Φ j (f j) w1) → (∀ j k,j < n → k < n → j ≠ k → F j → F k → blk (f j) ≠ blk (f k)) → wpList P ops Q (l.drop n) (fD ops a0 f n) w1) :
  ∀ (fuel : Nat) (T : List Nat) (s : Array Bool) (f : Nat → Value) (w : World),T.Nodup → T.length = fuel → (∀ j,j < n → (s.getD j false = false ↔ j ∈ T)) → (∀ j ∈ T,j < n) → HeadInv md ops n s → Below w0.heap.size w0 w →
   (∀ j,j < n → s.getD j false = true → Φ j (f j) w) → (∀ j,j < n → s.getD j false = true → F j → blk (f j) < w.heap.size) →
   (∀ j k,j < n → k < n → j ≠ k → s.getD j false = true → s.getD k false = true → F j → F k → blk (f j) ≠ blk (f k)) → wpAny P md ops Q (fuel + (ops.size - n)) s (fD ops a0 f n) w:=by
 simp only [T3,aO,aS] at hB;obtain ⟨⟨⟨⟨⟨hn,hs⟩,hc⟩,hfw⟩,hdd⟩,Le⟩:=hB;have Cj : ∀ i o,i < n → ops[i]? = some o → o.dst.isSome = true ∧ ∀ e ∈ o.after,Region.binds md e = true → e.on < i:=fun i o hi ho => by
  have:=List.all_eq_true.1 hfw i (List.mem_range.2 hi);rw [ho] at this;simp only [dE,bw,aO] at this;refine ⟨this.1,fun e he hb => ?_⟩;have h2:=Array.all_eq_true_iff_forall_mem.1 this.2 e he;rw [hb] at h2
  simpa using h2
 have Dp : ∀ i j,i < n → j < n → i ≠ j → zW ops i ≠ zW ops j:=fun i j hi hj hij => by
  have:=List.all_eq_true.1 (List.all_eq_true.1 hdd i (List.mem_range.2 hi)) j (List.mem_range.2 hj)
  simpa [hij] using this
 intro fuel
 induction fuel with
 | zero =>
  intro T s f w hT hlen lh Bl inv hb hΦ hF Fq;have Lf : T = []:=List.length_eq_zero_iff.1 hlen;subst Lf;have hall : ∀ j,j < n → s.getD j false = true:=fun j hj => by
   cases h : s.getD j false with
   | true => rfl
   | false => exact absurd ((lh j hj).1 h) (by simp)
  have Kk : s = ((List.range ops.size).map fun j => decide (j < n)).toArray:=by
   apply Array.ext
   ·
    simp [inv.size]
   intro j h1 h2;have il : j < ops.size:=by rw [← inv.size]; exact h1
   simp only [aT,dN,dR]
   by_cases e : j < n
   ·
    have:=hall j e;rw [bt,bI h1] at this;simp only [bw] at this;rw [this]; simp [e]
   have:=inv.tail j (by omega) il;rw [bt,bI h1] at this;simp only [bw] at this;rw [this]; simp [e]
  rw [aJ];have iy : (l.drop n).length = ops.size - n:=by rw [hl]; simp
  have h3:=wpAny_of_seq (P:=P) (md:=md) (ops:=ops) (Q':=Q) (l.drop n) n s (fD ops a0 f n) w (fun j => by rw [hl]; simp [cL]) (by rw [iy,Kk]; exact Le) (tail f w hb (fun j hj => hΦ j hj (hall j hj)) fun j k hj hk hjk => Fq j k hj hk hjk (hall j hj) (hall k hk))
  rwa [iy] at h3
 | succ fuel ih =>
  intro T s f w hT hlen lh Bl inv hb hΦ hF Fq;have Dq : T ≠ []:=fun e => by rw [e] at hlen; cases hlen
  obtain ⟨m,hm,hle⟩:=qH Dq;have hmn:=Bl m hm;have hun : s.getD m false = false:=(lh m hmn).2 hm;have JC : m < s.size:=by rw [inv.size]; omega
  obtain ⟨om,Fs⟩ : ∃ o,ops[m]? = some o:=⟨_,bI (by omega)⟩
  have jA : m ∈ Region.ready md ops s:=mem_ready.2 ⟨getD_in JC hun,om,Fs,fun e he jd => by
   have h1:=(Cj m om hmn Fs).2 e he jd
   cases h2 : s.getD e.on false with
   | true => rfl
   | false =>
    have:=hle _ ((lh e.on (by omega)).1 h2)
    omega⟩
  rw [show fuel + 1 + (ops.size - n) = (fuel + (ops.size - n)) + 1 by omega];refine ⟨fun e => absurd jA (by rw [e]; simp),fun i hi => ?_⟩;obtain ⟨IX,oi,hoi,lV⟩:=mem_ready.1 hi;have hin : i < n:=Nat.lt_of_not_le fun h => tail_waits hs hc hn inv _ m rfl hmn (getD_in JC hun) i h hi
  have Lg : i ∈ T:=(lh i hin).1 (getD_both IX);have Fu:=Cj i oi hin hoi;have pX : zW ops i = oi.dst:=by unfold zW; rw [hoi]; rfl
  unfold wpOp;rw [hoi];simp only [];have hh:=head i oi hin hoi f w hb fun e he jd => hΦ e.on (by have:=Fu.2 e he jd; omega) (lV e he jd)
  refine k5 hh (fun v w' hR => ?_) (fun d v w' hR => ?_)
  ·
   obtain ⟨_,fP,hv⟩:=hR;have hval : ∀ i,i < n → oi.dst.isSome = true → zW ops i = oi.dst → (∀ t,oi.dst = some t → Φ i (((fD ops a0 f n).put oi.dst v).tmps.getD t undef) w' ∧ (F i → w.heap.size ≤ blk (((fD ops a0 f n).put oi.dst v).tmps.getD t undef) ∧ blk (((fD ops a0 f n).put oi.dst v).tmps.getD t undef) < w'.heap.size)) → Φ i v w' ∧ (F i → w.heap.size ≤ blk v ∧ blk v < w'.heap.size):=fun i hi h1 pX h => by
    obtain ⟨t,ht⟩:=Option.isSome_iff_exists.1 h1;have h4:=h t ht;have h5 : t < (fD ops a0 f n).tmps.size:=by rw [ut]; exact hN i hi t (by rw [pX,ht])
    rw [ht] at h4
    simpa [Act.put,h5] using h4
   rw [← pX,qQ ops a0 f i v n hin fun j hj hji => .inr (Dp i j hin hj (aR hji))];refine ih (T.erase i) _ _ w' (hT.erase i) (by rw [List.length_erase_of_mem Lg]; omega) (fun j hj => ?_) (fun j hj => Bl j (List.mem_of_mem_erase hj)) (inv.set hi hin) (zA hb fP) (fun j hj il => ?_) (fun j hj il EB => ?_) (fun j k hj hk hjk il hks EB KA => ?_)
   ·
    rw [hT.mem_erase_iff]
    by_cases e : j = i
    ·
     subst e;have il : j < s.size:=by rw [inv.size]; omega
     simp [bt,il]
    rw [bH false (aR e),lh j hj];simp [e]
   ·
    by_cases e : j = i
    ·
     subst e;have : xP f j v j = v:=ag rfl;rw [this];exact (hval j hj Fu.1 pX hv).1
    have : xP f i v j = f j:=ah e;rw [this];rw [bH false (aR e)] at il;exact mono j hj _ _ _ fP (hΦ j hj il)
   ·
    by_cases e : j = i
    ·
     subst e;have : xP f j v j = v:=ag rfl;rw [this];exact ((hval j hj Fu.1 pX hv).2 EB).2
    have : xP f i v j = f j:=ah e;rw [this];rw [bH false (aR e)] at il;exact dt (hF j hj il EB) fP.size
   by_cases e : j = i
   ·
    subst e;have e1 : xP f j v j = v:=ag rfl;have e2 : xP f j v k = f k:=ah (aR hjk);rw [e1,e2];rw [bH false hjk] at hks;have h1:=((hval j hj Fu.1 pX hv).2 EB).1;have h2:=hF k hk hks KA;omega
   have e1 : xP f i v j = f j:=ah e;rw [e1];rw [bH false (aR e)] at il
   by_cases e3 : k = i
   ·
    subst e3;have e2 : xP f k v k = v:=ag rfl;rw [e2];have h1:=((hval k hk Fu.1 pX hv).2 KA).1;have h2:=hF j hj il EB;omega
   have e2 : xP f i v k = f k:=ah e3;rw [e2];rw [bH false (aR e3)] at hks;exact Fq j k hj hk hjk il hks EB KA
  have h1:=hR.1;have h2:=aQ List.length h1
  cases Lh : oi.dst <;> simp [Act.put,Lh] at h2
structure pY where
 p : Value → World → Prop
 m : ∀ v w w',Below w.heap.size w w' → p v w → p v w'
instance : Inhabited pY:=⟨⟨fun _ _ => True,fun _ _ _ _ _ => trivial⟩⟩
def eX (x : Value) : pY:=⟨fun v _ => v = x,fun _ _ _ _ h => h⟩
def Li (o : Oper) (j : Nat) : Bool:=o.after.any fun e => Region.binds .any e && e.on == j
def stA (L : List pY) (j : Nat) : pY:=L.getD j default
def Rl (ops : Array Oper) (n N : Nat) : Bool:=(List.range n).all fun i => ((zW ops i).map fun t => decide (t < N)).getD true
def Rm (P : Program) (Q : Exit → Act → World → Prop) (ops : Array Oper) (L : List pY) (F : List Nat) (fr : (Nat → Value) → Act) (w : World) : List Oper → List pY → Nat → Prop
 | o :: r,S :: R,i => (∀ f w1,Below w.heap.size w w1 → (∀ j,Li o j = true → (stA L j).p (f j) w1) → wpList P ops (Exit.then (tY S.p (i ∈ F) (fr f).defers o.dst w1) Q) [o] (fr f) w1) ∧ Rm P Q ops L F fr w r R (i + 1)
 | _,_,_ => True
theorem T4 {ops : Array Oper} {L : List pY} {F : List Nat} {fr : (Nat → Value) → Act} {w : World} : ∀ (l : List Oper) (R : List pY) (k : Nat),Rm P Q ops L F fr w l R k →
  ∀ i o S,l[i]? = some o → R[i]? = some S → ∀ f w1,Below w.heap.size w w1 → (∀ j,Li o j = true → (stA L j).p (f j) w1) → wpList P ops (Exit.then (tY S.p (k + i ∈ F) (fr f).defers o.dst w1) Q) [o] (fr f) w1
 | [],_,_,_,i,o,S,ho,_ => by simp at ho
 | o :: r,[],_,_,i,_,S,_,hS => by simp at hS
 | o :: r,S :: R,k,h,0,o',S',ho,hS => by
  simp at ho hS;subst ho hS;exact h.1
 | o :: r,S :: R,k,h,i + 1,o',S',ho,hS => by
  have:=T4 r R (k + 1) h.2 i o' S' (by simpa using ho) (by simpa using hS)
  rwa [show k + 1 + i = k + (i + 1) by omega] at this
theorem yx {id : Nat} {a0 : Act} {w : World} {l : List Oper} (L : List pY) (F : List Nat) (N : Nat) (hm : P.follows .mixedOrders = true) (hB : T3 .any l.toArray L.length = true)
  (hsz : a0.tmps.size = N) (hN : Rl l.toArray L.length N = true) {fr : (Nat → Value) → Act} (hfr : ∀ f,fD l.toArray a0 f L.length = fr f)
  (head : Rm P Q l.toArray L F fr w l L 0)
  (tail : ∀ f w1,Below w.heap.size w w1 → (∀ j,j < L.length → (stA L j).p (f j) w1) → (∀ j k,j < L.length → k < L.length → j ≠ k → j ∈ F → k ∈ F → blk (f j) ≠ blk (f k)) → wpList P l.toArray Q (l.drop L.length) (fr f) w1) : (Code.region id l.toArray true).wp P Q a0 w:=by
 have hn : L.length < l.toArray.size:=by
  simp only [T3,aO,aS] at hB;exact hB.1.1.1.1.1
 refine wp_region_any hm ?_;have h:=zLL (md:=.any) (Q:=Q) (P:=P) (n:=L.length) (a0:=a0) (w0:=w) (Φ:=fun j => (stA L j).p) (F:=fun j => j ∈ F) rfl hB
  (fun i hi t ht => by
   have h1:=List.all_eq_true.1 hN i (List.mem_range.2 hi)
   rw [ht] at h1
   rw [hsz]
   simpa using h1)
  (fun j _ v w1 w2 hb h => (stA L j).m v w1 w2 hb h)
  (fun i o hi ho f w1 hb hd => by
   rw [hfr]
   have hS : L[i]? = some (stA L i):=by
    unfold stA
    rw [aw,aB hi]; rfl
   have h2:=T4 l L 0 head i o (stA L i) (by simpa using ho) hS f w1 hb (fun j hj => by
    unfold Li at hj
    obtain ⟨e,he,h3⟩:=Array.any_eq_true'.1 hj
    simp only [aO,ct] at h3
    rw [← h3.2]
    exact hd e he h3.1)
   rwa [aJ] at h2)
  (fun f w1 hb hΦ Fq => by rw [hfr]; exact tail f w1 hb hΦ Fq)
  L.length (List.range L.length) (Array.replicate l.toArray.size false) (fun j => match zW l.toArray j with | some d => a0.tmps.getD d undef | none => undef) w.drew
  List.nodup_range (by simp) (fun j hj => by rw [getD_replicate_false]; simp [hj]) (fun j hj => by simpa using hj)
  ⟨by simp,fun j oj _ hl => (by rw [getD_replicate_false] at hl; cases hl),fun t _ ht => getD_in (by simpa using ht) (getD_replicate_false _ _)⟩
  (zy (aj _ _)) (fun j _ hl => by rw [getD_replicate_false] at hl; cases hl) (fun j _ hl => by rw [getD_replicate_false] at hl; cases hl) (fun j k _ _ _ hl => by rw [getD_replicate_false] at hl; cases hl)
 rw [PE,show L.length + (l.toArray.size - L.length) = l.toArray.size by omega] at h;exact h
end
theorem pS {x : Value} {i : Nat} {F : List Nat} {d : Tmp} {w : World} {ts : Array Value} (h : ts.getD d undef = x) (hf : ¬ i ∈ F) : tY (eX x).p (i ∈ F) [] (some d) w ⟨ts,[]⟩ w:=
 ⟨rfl,aj _ _,fun t ht => by injection ht with ht; subst ht; exact ⟨h,fun h => absurd h hf⟩⟩
theorem pT {x : Value} {i : Nat} {F : List Nat} {d : Tmp} {w w' : World} {ts : Array Value} (h : ts.getD d undef = x) (hf : ¬ i ∈ F) (hb : Below w.heap.size w w') : tY (eX x).p (i ∈ F) [] (some d) w ⟨ts,[]⟩ w':=
 ⟨rfl,hb,fun t ht => by injection ht with ht; subst ht; exact ⟨h,fun h => absurd h hf⟩⟩
end Go.Proofs.YtcgfilmmokmdjaaGreat
namespace Go.Proofs.YtcgfilmmokmdjaaGreat
open Go.RowKit
def rdS (l : List It) : pY:=⟨fun v w => ∃ u,v = u ∧ i_ w u l,fun _ _ _ hb ⟨u,h1,h2⟩ => ⟨u,h1,h2.below hb⟩⟩
theorem uU (g : Gn) (s : Sl) (w : World) (h : fq w s g.m.st) (hs : ∀ i,i < 8 → (g.m.st i).length ≤ 10000) :
  Calls Tryz.prog 79 #[zV g.num g.rev g.mode g.size s g.m.live g.m.dZ] w fun e w' => e = .returned (.bool (wM g)) ∧ Below w.heap.size w w':=by
 have HV:=zh (fun W (hb : Below w.heap.size w W) => uP s g.m W (h.below hb) (fun i hi => ak (hs i hi) (by decide)));have HI:=zh (fun W (hb : Below w.heap.size w W) => vQ s g.m W (h.below hb) hs);have iB:=zh (fun h => zE4 (g:=g) h);have DW : (zG g.m).length ≤ 1000000:=ak (wR hs) (by decide)
 have HM:=zh (show xA g.m = true → (∀ x ∈ zG g.m,A8 x) ∧ 0 ≤ g.m.live ∧ g.m.live ≤ 400000000 from fun hv =>
  ⟨qg ((zO g.m).1 hv),(tZ ((zO g.m).1 hv) hs).2⟩)
 have iO:=zh (yF g);have Kz:=zh (fun W v (hr : i_ W v (zG g.m)) (hok : ∀ x ∈ zG g.m,A8 x) => zHY v (zG g.m) g.size W hr hok DW);have Xx:=zh (fun (hok : ∀ x ∈ zG g.m,A8 x) => zKK hok g.size);have eG:=zh (eH.new w g.num g.rev g.mode g.size s g.m.live g.m.dZ 113);have eQ:=zh (zb w g.num g.rev g.mode g.size s g.m.live g.m.dZ 113);clear h hs DW;generalize hres : wM g = res at *
 by_cases hA : 1 ≤ g.num ∧ g.num ≤ 8 ∧ 0 ≤ g.rev ∧ g.rev ≤ 4294967295 ∧ 1 ≤ g.mode ∧ g.mode ≤ 3
 ·
  obtain ⟨La,Mu,Lc,Xb,Xc,Xd⟩:=hA;have HNs:=zh (fun (hn : ¬ (16 ≤ g.size ∧ g.size ≤ 1048576 ∧ g.size % 8 = 0)) => iB.out fun h => hn h.size);have Mw:=zh (fun (hn : xA g.m = false) => iB.out fun h => by rw [h.m] at hn; cases hn)
  have Ci:=zh (show 16 ≤ g.size ∧ g.size ≤ 1048576 ∧ g.size % 8 = 0 → xA g.m = true → res = (uC (zG g.m) g.size && (g.size - 16 - g.m.live == g.m.dZ)) from fun hB hv => by
   rw [dA,← hres,yF,aO,ct]
   exact ⟨fun h => ⟨h.ends,by have:=h.sum; omega⟩,fun h => ⟨⟨La,Mu⟩,⟨Lc,Xb⟩,⟨Xc,Xd⟩,hB,hv,h.1,by have:=h.2; omega⟩⟩)
  clear iB iO hres;generalize xA g.m = vb at *;generalize zG g.m = I at *;obtain ⟨a,b,c,d,f,L,G⟩:=g;dsimp only at *;generalize PD I d = er at *;generalize uC I d = eb at *
  go_enter Tryz.func79,Tryz.ntmps79
  go_upto_region 1 with fail;obtain ⟨W,hW⟩ : ∃ W,w.alloc (.cells (zQ a b c d s L G) 113) = W:=⟨_,rfl⟩
  change Code.wp _ _ _ _ (w.alloc (.cells (zQ a b c d s L G) 113));rw [hW] at eG eQ ⊢;clear hW;have Dm:=eG.out.lt;obtain ⟨x0,x1,x2,x3,x4,x5,x6,x7,x8,x9,fS,fT,fQ,fR⟩:=eG.out.q
  by_cases hB : 16 ≤ d ∧ d ≤ 1048576 ∧ d % 8 = 0
  ·
   obtain ⟨Bf,hd2,IJ⟩:=hB;have Xe : d.tmod 8 = 0:=by rw [Int.tmod_eq_emod_of_nonneg (by omega)]; exact IJ
   have e1 : decide (d < 16) = false:=by simp; omega
   have e2 : decide (1048576 < d) = false:=by simp; omega
   cases vb
   ·
    have HF:=zh (Mw.out rfl);have y3:=zB eG.out.n3;have y4:=zB eG.out.c0;have y5:=zB eG.out.c1;have y6:=zB eG.out.c2;have y7:=zB eG.out.c3;have y8:=zB eG.out.c4;have y9:=zB eG.out.c5;have NM:=zB eG.out.c6;have NN:=zB eG.out.c7;have NP:=zB eG.out.cl;have NQ:=zB eG.out.cg;have WS:=zh (fun W (hb : Below W.heap.size W W) => HV.out);clear WS;go_wp2_with fail;refine zC (by kernel_rfl) (by kernel_rfl) ?_
    repeat (go_big_quiet_step (exact zE (HV.out _ (zA eQ.out (ei.h _)))))
    refine aA ?_;intro w4 hw4;obtain ⟨q,hw4⟩:=hw4;subst hw4;have fZ:=zh (zA eQ.out q.h);go_wp2_with fail;go_ret;exact ⟨zH HF.out.symm,fZ.out⟩
   obtain ⟨hok,Md,hL2⟩:=HM.out rfl;have HR:=zh (Xx.out hok);have HF:=zh (Ci.out ⟨Bf,hd2,IJ⟩ rfl);clear HNs Mw Ci HM Xx;go_wp2_with fail;clear x0 x1 x2 x3 x4 x5 x6 x7 x8 x9 fS fT fQ fR
   refine yx [eX (.pointer (some ⟨w.heap.size,3,none⟩)),eX (.int .i64 d),eX (.bool false),eX (.bool false),eX (.pointer (some ⟨w.heap.size,3,none⟩)),eX (.int .i64 d),eX (.bool false),eX (.bool false),eX (.bool false),eX (.pointer (some ⟨w.heap.size,3,none⟩)),eX (.int .i64 d),eX (.int .i64 0),eX (.bool false),eX (.bool false),eX (.bool false),eX (.pointer (some ⟨w.heap.size,4,none⟩)),eX (yK s L G),eX (.bool true),eX (.bool false),eX (.bool false),eX (.bool false),eX (.pointer (some ⟨w.heap.size,4,none⟩)),eX (yK s L G),rdS I,eX (.pointer (some ⟨w.heap.size,3,none⟩)),eX (.int .i64 d),eX (.bool er),eX (.bool (!er))] [] 71 (by kernel_rfl) (by kernel_rfl) (by rfl) (by kernel_rfl) (fun f => by simp [fD,zW,Act.put]; exact rfl) ?_ ?_
   ·
    refine ⟨?_,?_,?_,?_,?_,?_,?_,?_,?_,?_,?_,?_,?_,?_,?_,?_,?_,?_,?_,?_,?_,?_,?_,?_,?_,?_,?_,?_,trivial⟩
    ·
     intro f w1 hb hd;clear hd;dsimp only;go_wp2_with fail;exact pS rfl (by simp)
    ·
     intro f w1 hb hd;have d0 : f 0 = (.pointer (some ⟨w.heap.size,3,none⟩)):=hd 0 (by kernel_rfl);clear hd;dsimp only;rw [d0];have hx:=eG.out.below hb;have x3:=hx.n3;clear hx;go_wp2_with fail;exact pS rfl (by simp)
    ·
     intro f w1 hb hd;have d1 : f 1 = (.int .i64 d):=hd 1 (by kernel_rfl);clear hd;dsimp only;rw [d1];go_wp2_with fail;exact pS rfl (by simp)
    ·
     intro f w1 hb hd;have d2 : f 2 = (.bool false):=hd 2 (by kernel_rfl);clear hd;dsimp only;rw [d2];go_wp2_with fail;exact pS rfl (by simp)
    ·
     intro f w1 hb hd;have d3 : f 3 = (.bool false):=hd 3 (by kernel_rfl);clear hd;dsimp only;rw [d3];go_wp2_with fail;exact pS rfl (by simp)
    ·
     intro f w1 hb hd;have d3 : f 3 = (.bool false):=hd 3 (by kernel_rfl);have d4 : f 4 = (.pointer (some ⟨w.heap.size,3,none⟩)):=hd 4 (by kernel_rfl);clear hd;dsimp only;rw [d3];rw [d4];have hx:=eG.out.below hb;have x3:=hx.n3;clear hx;go_wp2_with fail;exact pS rfl (by simp)
    ·
     intro f w1 hb hd;have d3 : f 3 = (.bool false):=hd 3 (by kernel_rfl);have d5 : f 5 = (.int .i64 d):=hd 5 (by kernel_rfl);clear hd;dsimp only;rw [d3];rw [d5];go_wp2_with fail;exact pS rfl (by simp)
    ·
     intro f w1 hb hd;have d3 : f 3 = (.bool false):=hd 3 (by kernel_rfl);have d6 : f 6 = (.bool false):=hd 6 (by kernel_rfl);clear hd;dsimp only;rw [d3];rw [d6];go_wp2_with fail;exact pS rfl (by simp)
    ·
     intro f w1 hb hd;have d7 : f 7 = (.bool false):=hd 7 (by kernel_rfl);clear hd;dsimp only;rw [d7];go_wp2_with fail;exact pS rfl (by simp)
    ·
     intro f w1 hb hd;have d8 : f 8 = (.bool false):=hd 8 (by kernel_rfl);clear hd;dsimp only;rw [d8];go_wp2_with fail;exact pS rfl (by simp)
    ·
     intro f w1 hb hd;have d8 : f 8 = (.bool false):=hd 8 (by kernel_rfl);have d9 : f 9 = (.pointer (some ⟨w.heap.size,3,none⟩)):=hd 9 (by kernel_rfl);clear hd;dsimp only;rw [d8];rw [d9];have hx:=eG.out.below hb;have x3:=hx.n3;clear hx;go_wp2_with fail;exact pS rfl (by simp)
    ·
     intro f w1 hb hd;have d8 : f 8 = (.bool false):=hd 8 (by kernel_rfl);have d10 : f 10 = (.int .i64 d):=hd 10 (by kernel_rfl);clear hd;dsimp only;rw [d8];rw [d10];go_wp2_with fail;exact pS rfl (by simp)
    ·
     intro f w1 hb hd;have d8 : f 8 = (.bool false):=hd 8 (by kernel_rfl);have d11 : f 11 = (.int .i64 0):=hd 11 (by kernel_rfl);clear hd;dsimp only;rw [d8];rw [d11];go_wp2_with fail;exact pS rfl (by simp)
    ·
     intro f w1 hb hd;have d8 : f 8 = (.bool false):=hd 8 (by kernel_rfl);have d12 : f 12 = (.bool false):=hd 12 (by kernel_rfl);clear hd;dsimp only;rw [d8];rw [d12];go_wp2_with fail;exact pS rfl (by simp)
    ·
     intro f w1 hb hd;have d13 : f 13 = (.bool false):=hd 13 (by kernel_rfl);clear hd;dsimp only;rw [d13];go_wp2_with fail;exact pS rfl (by simp)
    ·
     intro f w1 hb hd;have d14 : f 14 = (.bool false):=hd 14 (by kernel_rfl);clear hd;dsimp only;rw [d14];go_wp2_with fail;exact pS rfl (by simp)
    ·
     intro f w1 hb hd;have d14 : f 14 = (.bool false):=hd 14 (by kernel_rfl);have d15 : f 15 = (.pointer (some ⟨w.heap.size,4,none⟩)):=hd 15 (by kernel_rfl);clear hd;dsimp only;rw [d14];rw [d15];have hx:=eG.out.below hb;obtain ⟨m4,m5,m6,m7,m8,m9,m10,m11,m12,m13⟩:=hx.q;clear hx;go_wp2_with fail;exact pS rfl (by simp)
    ·
     intro f w1 hb hd;have d14 : f 14 = (.bool false):=hd 14 (by kernel_rfl);have d16 : f 16 = (yK s L G):=hd 16 (by kernel_rfl);clear hd;dsimp only;rw [d14];rw [d16];go_wp2_with fail;refine (HV.out w1 (zA eQ.out hb)).mono ?_; rintro e w9 ⟨rfl,gL⟩;go_wp2_with fail;exact pT rfl (by simp) gL
    ·
     intro f w1 hb hd;have d14 : f 14 = (.bool false):=hd 14 (by kernel_rfl);have d17 : f 17 = (.bool true):=hd 17 (by kernel_rfl);clear hd;dsimp only;rw [d14];rw [d17];go_wp2_with fail;exact pS rfl (by simp)
    ·
     intro f w1 hb hd;have d14 : f 14 = (.bool false):=hd 14 (by kernel_rfl);have d18 : f 18 = (.bool false):=hd 18 (by kernel_rfl);clear hd;dsimp only;rw [d14];rw [d18];go_wp2_with fail;exact pS rfl (by simp)
    ·
     intro f w1 hb hd;have d19 : f 19 = (.bool false):=hd 19 (by kernel_rfl);clear hd;dsimp only;rw [d19];go_wp2_with fail;exact pS rfl (by simp)
    ·
     intro f w1 hb hd;have d20 : f 20 = (.bool false):=hd 20 (by kernel_rfl);clear hd;dsimp only;rw [d20];go_wp2_with fail;exact pS rfl (by simp)
    ·
     intro f w1 hb hd;have d20 : f 20 = (.bool false):=hd 20 (by kernel_rfl);have d21 : f 21 = (.pointer (some ⟨w.heap.size,4,none⟩)):=hd 21 (by kernel_rfl);clear hd;dsimp only;rw [d20];rw [d21];have hx:=eG.out.below hb;obtain ⟨m4,m5,m6,m7,m8,m9,m10,m11,m12,m13⟩:=hx.q;clear hx;go_wp2_with fail;exact pS rfl (by simp)
    ·
     intro f w1 hb hd;have d20 : f 20 = (.bool false):=hd 20 (by kernel_rfl);have d22 : f 22 = (yK s L G):=hd 22 (by kernel_rfl);clear hd;dsimp only;rw [d20];rw [d22];go_wp2_with fail;refine (HI.out w1 (zA eQ.out hb)).mono ?_; rintro e w9 ⟨v9,rfl,B5,gL⟩;go_wp2_with fail;exact ⟨rfl,gL,fun t ht => by injection ht with ht; subst ht; exact ⟨⟨_,rfl,fu.rd B5⟩,fun h => by simp at h⟩⟩
    ·
     intro f w1 hb hd;have d20 : f 20 = (.bool false):=hd 20 (by kernel_rfl);clear hd;dsimp only;rw [d20];go_wp2_with fail;exact pS rfl (by simp)
    ·
     intro f w1 hb hd;have d20 : f 20 = (.bool false):=hd 20 (by kernel_rfl);have d24 : f 24 = (.pointer (some ⟨w.heap.size,3,none⟩)):=hd 24 (by kernel_rfl);clear hd;dsimp only;rw [d20];rw [d24];have hx:=eG.out.below hb;have x3:=hx.n3;clear hx;go_wp2_with fail;exact pS rfl (by simp)
    ·
     intro f w1 hb hd;have d20 : f 20 = (.bool false):=hd 20 (by kernel_rfl);obtain ⟨v23,d23,r23⟩:=show ∃ u,f 23 = u ∧ i_ w1 u I from hd 23 (by kernel_rfl);have d25 : f 25 = (.int .i64 d):=hd 25 (by kernel_rfl);clear hd;dsimp only;rw [d20];rw [d23];rw [d25];go_wp2_with fail;refine (Kz.out w1 _ r23 hok).mono ?_; rintro e w9 ⟨rfl,gL⟩;go_wp2_with fail;exact pT rfl (by simp) gL
    intro f w1 hb hd;have d20 : f 20 = (.bool false):=hd 20 (by kernel_rfl);have d26 : f 26 = (.bool er):=hd 26 (by kernel_rfl);clear hd;dsimp only;rw [d20];rw [d26];go_wp2_with fail;exact pS rfl (by simp)
   intro f w5 hb hd iD;clear iD;have d19 : f 19 = (.bool false):=hd 19 (show 19 < 28 by decide);have d20 : f 20 = (.bool false):=hd 20 (show 20 < 28 by decide);have d27 : f 27 = (.bool (!er)):=hd 27 (show 27 < 28 by decide)
   try dsimp only
   rw [d19,d20,d27];clear hd d19 d20 d27;have fw:=zh (eG.out.below hb);have gw:=zh (zA eQ.out hb);generalize f 0 = g0,f 1 = g1,f 2 = g2,f 3 = g3,f 4 = g4,f 5 = g5,f 6 = g6,f 7 = g7,f 8 = g8,f 9 = g9,f 10 = g10,f 11 = g11,f 12 = g12,f 13 = g13,f 14 = g14,f 15 = g15,f 16 = g16,f 17 = g17,f 18 = g18,f 21 = g21,f 22 = g22,f 23 = g23,f 24 = g24,f 25 = g25,f 26 = g26;clear f;have x3:=fw.out.n3;have fQ:=fw.out.cl;have fR:=fw.out.cg
   cases er
   ·
    go_wp2_with fail;go_ret;exact ⟨zH (by rw [HF.out,← HR.out]; rfl),gw.out⟩
   go_wp2_with fail;go_ret;exact ⟨zH (by rw [HF.out,← HR.out]; rfl),gw.out⟩
  have HF:=zh (HNs.out hB);have y3:=zB eG.out.n3
  by_cases h1 : d < 16
  ·
   have e1 : decide (d < 16) = true:=aD h1;go_wp2_with fail;refine zC (by kernel_rfl) (by kernel_rfl) ?_
   repeat (go_big_quiet_step (fail))
   refine aA ?_;intro w4 hw4;obtain ⟨q,hw4⟩:=hw4;subst hw4;have fZ:=zh (zA eQ.out q.h);go_wp2_with fail;go_ret;exact ⟨zH HF.out.symm,fZ.out⟩
  have e1 : decide (d < 16) = false:=aC h1
  by_cases h2 : 1048576 < d
  ·
   have e2 : decide (1048576 < d) = true:=aD h2;go_wp2_with fail;refine zC (by kernel_rfl) (by kernel_rfl) ?_
   repeat (go_big_quiet_step (fail))
   refine aA ?_;intro w4 hw4;obtain ⟨q,hw4⟩:=hw4;subst hw4;have fZ:=zh (zA eQ.out q.h);go_wp2_with fail;go_ret;exact ⟨zH HF.out.symm,fZ.out⟩
  have e2 : decide (1048576 < d) = false:=aC h2;have Xe : d.tmod 8 = d % 8:=Int.tmod_eq_emod_of_nonneg (by omega);have e3 : (d % 8 != 0) = true:=bne_iff_ne.2 (fun e => hB ⟨by omega,by omega,e⟩);go_wp2_with fail;refine zC (by kernel_rfl) (by kernel_rfl) ?_
  repeat (go_big_quiet_step (fail))
  refine aA ?_;intro w4 hw4;obtain ⟨q,hw4⟩:=hw4;subst hw4;have fZ:=zh (zA eQ.out q.h);go_wp2_with fail;go_ret;exact ⟨zH HF.out.symm,fZ.out⟩
 have HF:=zh (iB.out fun h => hA ⟨h.num.1,h.num.2,h.rev.1,h.rev.2,h.mode.1,h.mode.2⟩);have HnA:=zh hA;clear iB iO hres HV HI HM Kz Xx hA;obtain ⟨a,b,c,d,f,L,G⟩:=g;dsimp only at *
 go_enter Tryz.func79,Tryz.ntmps79
 go_upto_region 1 with fail;obtain ⟨W,hW⟩ : ∃ W,w.alloc (.cells (zQ a b c d s L G) 113) = W:=⟨_,rfl⟩
 change Code.wp _ _ _ _ (w.alloc (.cells (zQ a b c d s L G) 113));rw [hW] at eG eQ ⊢;clear hW;have x0:=eG.out.n0;have x1:=eG.out.n1;have x2:=eG.out.n2;go_upto_region 3 with fail
 all_goals first | (go_ret; exact ⟨zH HF.out.symm,eQ.out⟩) | (exfalso; exact HnA.out ⟨by omega,by omega,by omega,by omega,by omega,by omega⟩)
theorem vE (w : World) (n r md z : Int) (s : Sl) (l g : Int) (t : TypeId) : ∃ W,(w.alloc (.cells (zQ n r md z s l g) t)).alloc (.cells (zQ 0 0 0 0 Sl.nil 0 0) t) = W ∧ eH W w.heap.size n r md z s l g ∧ eH W (w.heap.size + 1) 0 0 0 0 Sl.nil 0 0 ∧ Below w.heap.size w W:=by
 refine ⟨_,rfl,(eH.new w n r md z s l g t).below (zb _ 0 0 0 0 Sl.nil 0 0 t),?_,zA (zb w n r md z s l g t) (zb _ 0 0 0 0 Sl.nil 0 0 t)⟩;have:=eH.new (w.alloc (.cells (zQ n r md z s l g) t)) 0 0 0 0 Sl.nil 0 0 t
 rwa [dI] at this
theorem zKS (g : Gn) (s : Sl) (fD : Int) (w : World) (h : fq w s g.m.st) (hs : ∀ i,i < 8 → (g.m.st i).length ≤ 10000) :
  Calls Tryz.prog 104 #[zV g.num g.rev g.mode g.size s g.m.live g.m.dZ,.int .i64 fD] w (Kv w (xl g fD)):=by
 have HV:=zh (fun W (hb : Below w.heap.size w W) => uF g s W (h.below hb) hs);have HW:=zh (fun W (hb : Below w.heap.size w W) => uA s g.m 0 W (h.below hb) hs);rw [uN] at HW;have lz:=zh (show ∀ W,eZ W w.heap.size Sl.nil gY.m.st from fun W => eZ.nil W _);have HG:=zh (show xl g fD = if wM g = true then (if g.mode = fD then (0,{ g with mode:=fD + 1 }) else (12,gY)) else (1,gY) from rfl);have II:=zh (show wM g = true → 1 ≤ g.mode ∧ g.mode ≤ 3 from fun hv => ((yF g).1 hv).mode);generalize wM g = vb at *;obtain ⟨n,r,md,z,⟨f,L,G⟩⟩:=g;dsimp only at *;generalize xl ⟨n,r,md,z,⟨f,L,G⟩⟩ fD = TG at *;obtain ⟨W,hW,fF,hbr,fP⟩:=vE w n r md z s L G 38;have HX:=zh fF;have HR:=zh hbr;have HB:=zh fP;clear fF hbr fP h hs
 go_enter Tryz.func104,Tryz.ntmps104
 go_upto_region 1 with fail;change Code.wp _ _ _ _ ((w.alloc (.cells (zQ n r md z s L G) 38)).alloc (.cells (zQ 0 0 0 0 Sl.nil 0 0) 38));rw [hW];clear hW;obtain ⟨x0,x1,x2,x3,x4,x5,x6,x7,x8,x9,fS,fT,fQ,fR⟩:=HX.out.q;go_wp2_with fail;refine (HV.out _ HB.out).mono ?_;rintro e w1 ⟨rfl,hb1⟩;have fC:=zh (HX.out.below hb1);have eY:=zh (HR.out.below hb1);have eW:=zh (zA HB.out hb1);clear x0 x1 x2 x3 x4 x5 x6 x7 x8 x9 fS fT fQ fR;clear hb1 HX HR HB HV;have hlr:=eY.out.lt
 cases vb
 ·
  have iP:=zh (show TG = (1,gY) from HG.out);obtain ⟨r0,r1,r2,r3,r4,r5,r6,r7,r8,r9,jU,lM,mI,Ba⟩:=eY.out.q;have rf:=eY.out.f;go_wp2_with fail;change bodyPost _ _ _ _ _ (pts w1 (w.heap.size + 1) (zJ 0 0 0 0 Sl.nil 0 0));have hby:=eY.out.all 0 0 0 0 Sl.nil 0 0;have ey:=zh (zD (B:=w.heap.size) (b:=(w.heap.size + 1)) (by omega) (zJ 0 0 0 0 Sl.nil 0 0) eW.out);have gJ:=lz.out (pts w1 (w.heap.size + 1) (zJ 0 0 0 0 Sl.nil 0 0));rw [iP.out];generalize pts w1 (w.heap.size + 1) (zJ 0 0 0 0 Sl.nil 0 0) = V at *;exact au (v:=.tuple #[zV 0 0 0 0 Sl.nil 0 0,.int .i64 1]) (by simp [results,Tryz.results104,go_sem,hby.q]) rfl ⟨⟨_,rfl,gJ⟩,ey.out⟩
 have alY:=II.out rfl
 by_cases hm : md = fD
 ·
  subst hm;have iP:=zh (show TG = (0,⟨n,r,md + 1,z,⟨f,L,G⟩⟩) by rw [HG.out,ag rfl,ag rfl]);clear HG II;obtain ⟨x0,x1,x2,x3,x4,x5,x6,x7,x8,x9,fS,fT,fQ,fR⟩:=fC.out.q;have xf:=fC.out.f;go_upto_region 6 with fail;change Code.wp _ _ _ _ (pts w1 w.heap.size [(2,.int .i64 (md + 1))]);have gm:=zh (fC.out.QZ (md + 1));have gj:=zh (eY.out.eD (show w.heap.size + 1 ≠ w.heap.size by omega) [(2,.int .i64 (md + 1))]);have eV:=zh (zD (B:=w.heap.size) (b:=w.heap.size) (ai _) [(2,.int .i64 (md + 1))] eW.out);have hz2 : (pts w1 w.heap.size [(2,.int .i64 (md + 1))]).heap.size = w1.heap.size:=uI _ _;generalize pts w1 w.heap.size [(2,.int .i64 (md + 1))] = w2 at *;clear x0 x1 x2 x3 x4 x5 x6 x7 x8 x9 fS fT fQ fR xf;clear fC eY eW;obtain ⟨x0,x1,x2,x3,x4,x5,x6,x7,x8,x9,fS,fT,fQ,fR⟩:=gm.out.q;have xf:=gm.out.f;go_wp2_with fail
  refine (HW.out _ eV.out).mono ?_;rintro e w3 ⟨⟨s3,rfl,CL⟩,hb3⟩;have gP:=zh (gm.out.below hb3);have mo:=zh (gj.out.below hb3);have gp:=zh (zA eV.out hb3);have lr:=zh (CL.mono (show w.heap.size + 2 ≤ w2.heap.size by omega));clear x0 x1 x2 x3 x4 x5 x6 x7 x8 x9 fS fT fQ fR xf;clear hb3 CL gm gj eV HW hz2;obtain ⟨x0,x1,x2,x3,x4,x5,x6,x7,x8,x9,fS,fT,fQ,fR⟩:=gP.out.q;have xf:=gP.out.f;go_upto_region 7 with fail;change Code.wp _ _ _ _ (pts w3 w.heap.size (yu s3 L G));have iM:=zh (gP.out.map s3 L G);have lB:=zh (mo.out.eD (show w.heap.size + 1 ≠ w.heap.size by omega) (yu s3 L G));have fZ:=zh (zD (B:=w.heap.size) (b:=w.heap.size) (ai _) (yu s3 L G) gp.out);have jx:=zh (lr.out.pts (show w.heap.size < w.heap.size + 2 by omega) (yu s3 L G));generalize pts w3 w.heap.size (yu s3 L G) = w4 at *;clear x0 x1 x2 x3 x4 x5 x6 x7 x8 x9 fS fT fQ fR xf;clear gP mo gp lr
  obtain ⟨x0,x1,x2,x3,x4,x5,x6,x7,x8,x9,fS,fT,fQ,fR⟩:=iM.out.q;obtain ⟨r0,r1,r2,r3,r4,r5,r6,r7,r8,r9,jU,lM,mI,Ba⟩:=lB.out.q;have rf:=lB.out.f;go_wp2_with fail;change bodyPost _ _ _ _ _ (pts w4 (w.heap.size + 1) (zJ n r (md + 1) z s3 L G));have hby:=lB.out.all n r (md + 1) z s3 L G;have ey:=zh (zD (B:=w.heap.size) (b:=(w.heap.size + 1)) (by omega) (zJ n r (md + 1) z s3 L G) fZ.out);have gJ:=(jx.out.pts (show w.heap.size + 1 < w.heap.size + 2 by omega) (zJ n r (md + 1) z s3 L G)).mono (show w.heap.size ≤ w.heap.size + 2 by omega);rw [iP.out];generalize pts w4 (w.heap.size + 1) (zJ n r (md + 1) z s3 L G) = V at *;exact au (v:=.tuple #[zV n r (md + 1) z s3 L G,.int .i64 0]) (by simp [results,Tryz.results104,go_sem,hby.q]) rfl ⟨⟨_,rfl,gJ⟩,ey.out⟩
 have iP:=zh (show TG = (12,gY) by rw [HG.out,ag rfl,ah hm]);have e0 : (md == fD) = false:=beq_eq_false_iff_ne.2 hm;clear HG II;obtain ⟨x0,x1,x2,x3,x4,x5,x6,x7,x8,x9,fS,fT,fQ,fR⟩:=fC.out.q;obtain ⟨r0,r1,r2,r3,r4,r5,r6,r7,r8,r9,jU,lM,mI,Ba⟩:=eY.out.q;have rf:=eY.out.f;go_wp2_with fail;change bodyPost _ _ _ _ _ (pts w1 (w.heap.size + 1) (zJ 0 0 0 0 Sl.nil 0 0));have hby:=eY.out.all 0 0 0 0 Sl.nil 0 0;have ey:=zh (zD (B:=w.heap.size) (b:=(w.heap.size + 1)) (by omega) (zJ 0 0 0 0 Sl.nil 0 0) eW.out);have gJ:=lz.out (pts w1 (w.heap.size + 1) (zJ 0 0 0 0 Sl.nil 0 0));rw [iP.out];generalize pts w1 (w.heap.size + 1) (zJ 0 0 0 0 Sl.nil 0 0) = V at *;exact au (v:=.tuple #[zV 0 0 0 0 Sl.nil 0 0,.int .i64 12]) (by simp [results,Tryz.results104,go_sem,hby.q]) rfl ⟨⟨_,rfl,gJ⟩,ey.out⟩
end Go.Proofs.YtcgfilmmokmdjaaGreat
