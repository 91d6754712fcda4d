/- A part of the walk. -/
import Derived.Test.YtcgfilmmokmdjaaGreatQAA
import Derived.Test.YtcgfilmmokmdjaaGreatSz
import Derived.Test.YtcgfilmmokmdjaaGreatQAC
import Derived.Lib.AppendZeros
import Derived.Laws.StructEq
import Derived.Test.YtcgfilmmokmdjaaGreatQAD
import Derived.Deep.DeepCutAuto
import Derived.Test.YtcgfilmmokmdjaaGreatQAE
set_option linter.all false
set_option maxRecDepth 100000
set_option maxHeartbeats 32000000
namespace Go.Proofs.YtcgfilmmokmdjaaGreat
open Go.RowKit
theorem zGM {w : World} {base : Nat} {e : TypeId} {sz n cap g : Nat} {xs : List Value} (h : w.ownsRow base e sz (.slice (some ⟨g,0,none⟩) n cap) n xs) (o : Nat) (vs : List Value) (ho : o + vs.length ≤ n * sz) :
  ∃ cur,w.heap[g]? = some (.cells cur e (0,0)) ∧ n * sz ≤ cur.size ∧ (w.setRow g (cur.toList.take o ++ vs ++ cur.toList.drop (o + vs.length)).toArray).ownsRow base e sz (.slice (some ⟨g,0,none⟩) n cap) n (xs.take o ++ vs ++ xs.drop (o + vs.length)) ∧
   w.grownBy (w.setRow g (cur.toList.take o ++ vs ++ cur.toList.drop (o + vs.length)).toArray) (some g):=by
 have hx:=h.1;rcases h.2 with ⟨h',_⟩ | ⟨g',cap',cur,h',hb,hg,hnc,hcm,hcs,ji⟩
 ·
  cases h'
 injection h' with h' _ h'';injection h' with h';injection h' with h' _;subst h' h'';have hN : n * sz ≤ cur.size:=by rw [hcs]; exact aV _ hnc
 refine ⟨cur,hg,hN,⟨?_,.inr ⟨g,cap,_,rfl,hb,setRow_heap w g cur _ e (0,0) hg,hnc,hcm,?_,?_⟩⟩,⟨rfl,rfl,rfl,by simp,fun k _ hk => setRow_other w g k _ (fun e => hk (by rw [e]))⟩⟩
 ·
  simp only [ax,ay,aP,hx]; omega
 ·
  simp only [b8,ax,ay,aP,dO]; omega
 have e1 : xs.take o = cur.toList.take o:=by rw [← ji,dh,bJ (by omega)]
 have e2 : xs.drop (o + vs.length) = (cur.toList.drop (o + vs.length)).take (n * sz - (o + vs.length)):=by rw [← ji,List.drop_take]
 rw [e1,e2];have l1 : (cur.toList.take o ++ vs).length = o + vs.length:=by rw [ax,ay,dO]; omega
 rw [List.take_append,aH (l:=cur.toList.take o ++ vs) (by rw [l1]; exact ho),l1]
theorem zF9 (g n cap B : Nat) (d : List It) (w : World) (hown : w.ownsRow B 49 4 (.slice (some ⟨g,0,none⟩) n cap) n (zU d)) (hn : d.length = n) (hs : n ≤ 1000000) :
  Calls Tryz.prog 197 #[.slice (some ⟨g,0,none⟩) n cap,.int .i64 (n : Int),.func (.func 174) #[] #[]] w fun e w' => e = .returned (.tuple #[]) ∧ Left w g n cap 0 n B d w':=by
 have HO:=zh hown;have hgr : w.grownBy w (some g):=⟨rfl,rfl,rfl,ai _,fun _ _ _ => rfl⟩
 have HG:=zh hgr;have HN:=zh hn;have HL:=zh (fun q (h : Moved d q 0 n) => h.len.trans hn);clear hown hgr hn
 go_enter Tryz.func197,Tryz.ntmps197
 go_wp2_with fail
 go_loopw [7,8] (fun av bv wr => ∃ (k a : Nat) (q : List It),av = .int .i64 (a : Int) ∧ bv = .int .i64 ((a : Int) + 20) ∧ Hid (a = k * 20) ∧ a ≤ n ∧ CM q 20 0 a ∧ Moved d q 0 n ∧ wr.ownsRow B 49 4 (.slice (some ⟨g,0,none⟩) n cap) n (zU q) ∧ w.grownBy wr (some g)) (fun av _ _ => n - (intOf av).toNat)
 case atStart => exact ⟨0,0,d,by go_num,by go_num,(rfl : (0 : Nat) = 0 * 20),by omega,CM.none _ _ _,Moved.refl _ _ _,HO.out,HG.out⟩
 obtain ⟨k,a,q,rfl,rfl,HK,TH,hb,hm,ho,hg⟩:=hrel;have Hb:=zh hb;have Hm:=zh hm;have Ho:=zh ho;have Hg:=zh hg;clear hb hm ho hg
 by_cases hlt : a + 20 ≤ n
 ·
  have HC:=zh (kD g n cap a (a + 20) B q wr Ho.out (HL.out q Hm.out) hs (by omega) hlt);have e1 : ((a + 20 : Nat) : Int) = (a : Int) + 20:=by omega
  rw [e1] at HC;clear e1;have hle : (a : Int) + 20 ≤ (n : Int):=by omega
  go_wp2_with fail;refine HC.out.mono ?_; rintro _ w2 ⟨rfl,q2,eC,jH,mq,fB⟩;have gu:=zh eC;have CO:=zh (Hm.out.trans (jH.wide (aq _) (by omega) hlt));have eV:=zh ((Hb.out.keep jH (Or.inl (ai _))).more HK.out mq);have jt:=zh (zq Hg.out fB);have Jj:=zh (show a + 20 = (k + 1) * 20 by rw [HK.out]; omega);clear eC jH mq fB;go_wp2_with fail;exact ⟨⟨k + 1,a + 20,q2,by go_num,by go_num,Jj,hlt,eV.out,CO.out,gu.out,jt.out⟩,by simp [intOf]; omega⟩
 have hle : ¬ (a : Int) + 20 ≤ (n : Int):=by omega
 have HC:=zh (kD g n cap a n B q wr Ho.out (HL.out q Hm.out) hs TH (ai _));go_wp2_with fail;refine HC.out.mono ?_; rintro _ w2 ⟨rfl,q2,eC,jH,mq,fB⟩;have gu:=zh eC;have CO:=zh (Hm.out.trans (jH.wide (aq _) TH (ai _)));have eV:=zh ((Hb.out.keep jH (Or.inl (ai _))).more HK.out mq);have jt:=zh (zq Hg.out fB);clear eC jH mq fB hle hlt;clear HK Hb Hm Ho Hg HC;go_wp2_with fail
 go_loopw [6] (fun sv wr => ∃ (bs : Nat) (q : List It),sv = .int .i64 (bs : Int) ∧ 0 < bs ∧ bs ≤ 2000000 ∧ CM q bs 0 n ∧ Moved d q 0 n ∧ wr.ownsRow B 49 4 (.slice (some ⟨g,0,none⟩) n cap) n (zU q) ∧ w.grownBy wr (some g)) (fun sv _ => n - (intOf sv).toNat)
 case atStart => exact ⟨20,q2,by go_num,by omega,by omega,eV.out,CO.out,gu.out,jt.out⟩
 obtain ⟨bs,q,rfl,hb0,hb1,hb,hm,ho,hg⟩:=hrel;have Hb:=zh hb;have Hm:=zh hm;have Ho:=zh ho;have Hg:=zh hg;clear hb hm ho hg
 by_cases hlt : bs < n
 ·
  go_wp2_with fail
  go_loopw [7,8] (fun av bv wr => ∃ (k a : Nat) (q : List It),av = .int .i64 (a : Int) ∧ bv = .int .i64 ((a : Int) + 2 * (bs : Int)) ∧ Hid (a = k * (2 * bs)) ∧ a ≤ n ∧ CM q (2 * bs) 0 a ∧ CM q bs a n ∧ Moved d q 0 n ∧ wr.ownsRow B 49 4 (.slice (some ⟨g,0,none⟩) n cap) n (zU q) ∧ w.grownBy wr (some g)) (fun av _ _ => n - (intOf av).toNat)
  case atStart => exact ⟨0,0,q,by go_num,by go_num,(Nat.zero_mul _).symm,by omega,CM.none _ _ _,Hb.out,Hm.out,Ho.out,Hg.out⟩
  obtain ⟨k,a,r,rfl,rfl,HK,TH,hb,hc,hm,ho,hg⟩:=hrel;have hK2 : k * 2 * bs = a:=by rw [HK.out,Nat.mul_assoc]
  have hK3 : (k * 2 + 1) * bs = a + bs:=by rw [cO (k * 2) bs,hK2]
  have l7:=zh (show a + 2 * bs = (k + 1) * (2 * bs) by rw [cO k (2 * bs),← HK.out]);have Hn1:=zh (show a + bs ≤ n → iK r a (a + bs) from fun h => hc.nd (k:=k * 2) (ai _) h (by omega) (by omega));have Hn2:=zh (show ∀ b,a + bs ≤ b → b ≤ n → b ≤ a + 2 * bs → iK r (a + bs) b from fun b h h' h'' => hc.nd (k:=k * 2 + 1) (by omega) h' (by omega) (by omega));have Hn3:=zh (show n ≤ a + bs → iK r a n from fun h => hc.nd (k:=k * 2) (ai _) (ai _) (by omega) (by omega));have Hb:=zh hb;have Hc:=zh hc;have Hm:=zh hm;have Ho:=zh ho;have Hg:=zh hg;clear hb hc hm ho hg hK2 hK3
  by_cases hle : a + 2 * bs ≤ n
  ·
   have HC:=zh (Wq g n cap B hs (2 * bs) a (a + bs) (a + 2 * bs) r wr (by omega) Ho.out (HL.out r Hm.out) (by omega) (by omega) hle (Hn1.out (by omega)) (Hn2.out _ (by omega) hle (ai _)));have e1 : ((a + bs : Nat) : Int) = (a : Int) + (bs : Int):=by omega
   have e2 : ((a + 2 * bs : Nat) : Int) = (a : Int) + 2 * (bs : Int):=by omega
   rw [e1,e2] at HC;clear e1 e2;have Wr : (a : Int) + 2 * (bs : Int) ≤ (n : Int):=by omega
   go_wp2_with fail;refine HC.out.mono ?_; rintro _ w2 ⟨rfl,q2,eC,jH,mq,fB⟩;have gu:=zh eC;have CO:=zh (Hm.out.trans (jH.wide (aq _) (by omega) hle));have eV:=zh ((Hb.out.keep jH (Or.inl (ai _))).more HK.out mq);have B9:=zh ((Hc.out.sub (lo':=a + 2 * bs) (hi':=n) (by omega) (ai _)).keep jH (Or.inr (ai _)));have jt:=zh (zq Hg.out fB);clear eC jH mq fB;go_wp2_with fail;exact ⟨⟨k + 1,a + 2 * bs,q2,by go_num,by go_num,l7,hle,eV.out,B9.out,CO.out,gu.out,jt.out⟩,by simp [intOf]; omega⟩
  have Wr : ¬ (a : Int) + 2 * (bs : Int) ≤ (n : Int):=by omega
  by_cases hmn : a + bs < n
  ·
   have HC:=zh (Wq g n cap B hs (2 * bs) a (a + bs) n r wr (by omega) Ho.out (HL.out r Hm.out) (by omega) hmn (ai _) (Hn1.out (by omega)) (Hn2.out _ (by omega) (ai _) (by omega)));have e1 : ((a + bs : Nat) : Int) = (a : Int) + (bs : Int):=by omega
   rw [e1] at HC;clear e1;have Ws : (a : Int) + (bs : Int) < (n : Int):=by omega
   go_wp2_with fail;refine HC.out.mono ?_; rintro _ w2 ⟨rfl,q2,eC,jH,mq,fB⟩;have gu:=zh eC;have CO:=zh (Hm.out.trans (jH.wide (aq _) TH (ai _)));have eV:=zh ((Hb.out.keep jH (Or.inl (ai _))).more HK.out mq);have jt:=zh (zq Hg.out fB);clear eC jH mq fB;go_wp2_with fail;exact ⟨⟨2 * bs,q2,by go_num,by omega,by omega,eV.out,CO.out,gu.out,jt.out⟩,by simp [intOf]; omega⟩
  have Ws : ¬ (a : Int) + (bs : Int) < (n : Int):=by omega
  have eV:=zh (Hb.out.more HK.out (Hn3.out (by omega)));go_wp2_with fail;exact ⟨⟨2 * bs,r,by go_num,by omega,by omega,eV.out,Hm.out,Ho.out,Hg.out⟩,by simp [intOf]; omega⟩
 have HW:=zh (Hb.out.whole (by omega));go_wp2_with fail;go_end0;exact ⟨rfl,q,Ho.out,Hm.out,HW.out,Hg.out⟩
theorem zCT (g n cap B : Nat) (d : List It) (w : World) (hown : w.ownsRow B 49 4 (.slice (some ⟨g,0,none⟩) n cap) n (zU d)) (hn : d.length = n) (hs : n ≤ 1000000) :
  Calls Tryz.prog 173 #[.slice (some ⟨g,0,none⟩) n cap,.func (.func 174) #[] #[]] w fun e w' => e = .returned (.tuple #[]) ∧ Left w g n cap 0 n B d w':=by
 have HC:=zh (zF9 g n cap B d w hown hn hs);clear hown hn
 go_enter Tryz.func173,Tryz.ntmps173
 go_wp2_with fail;refine HC.out.mono ?_; rintro _ w2 ⟨rfl,hl⟩;have HL:=zh hl;clear hl;go_wp2_with fail;go_end0;exact ⟨rfl,HL.out⟩
theorem zLw {w : World} {B g n cap : Nat} {q : List It} (h : w.ownsRow B 49 4 (.slice (some ⟨g,0,none⟩) n cap) n (zU q)) (hq : q.length = n) (k : Nat) (hk : k < n) {sa : Addr} {sc : Nat} {x : It} (hs : Rd w 4 (.slice (some sa) 1 sc) 1 (g_ x)) :
  ∃ w',(∀ ty,(Builtin.append_ #[33,33] ty #[.slice (some ⟨g,0,none⟩) k cap,.slice (some sa) 1 sc]).run Tryz.prog w = .ok (.slice (some ⟨g,0,none⟩) (k + 1) cap) w') ∧
   w'.ownsRow B 49 4 (.slice (some ⟨g,0,none⟩) n cap) n (zU (q.set k x)) ∧ w.grownBy w' (some g):=by
 obtain ⟨cur,hg,hN,h1,h2⟩:=zGM h (k * 4) (g_ x) (by rw [ws]; omega);obtain ⟨ht,hsz,i,z,hi,hz,hs4,hby,hzs⟩:=yI;obtain ⟨_,a',cap',e,_,_,_,hc⟩:=hs;injection e with e1 e2 e3;obtain ⟨b,off,e4,hcell⟩:=hc (by rw [ws]; omega);rw [← e1] at e4;injection e4 with e4;subst e4;have hcap : k + 1 ≤ cap:=by
  obtain ⟨_,_,e,hnc,_,_⟩:=zM h;injection e with _ _ e5;omega
 refine ⟨_,fun ty => run_append_room (P:=Tryz.prog) w 33 ty 49 i ht hi g k cap cur hg ⟨b,off,none⟩ 1 sc (g_ x) (by rw [hs4]; rfl) (fun j u hj => by rw [yT]; exact hcell j u hj) (fun u hu => zp [x] u (by rw [xU]; exact hu)) hcap (by rw [hs4,ws]; omega),?_,?_⟩
 ·
  rw [hs4];have e : zU (q.set k x) = (zU q).take (k * 4) ++ g_ x ++ (zU q).drop (k * 4 + (g_ x).length):=by
   rw [List.set_eq_take_append_cons_drop,ag (by omega),zt,xu,um,uq,ws,a_]
   congr 3; omega
  rw [e]; exact h1
 rw [hs4]; exact h2
theorem zAL {w : World} {ops : Array Oper} {rest : List Oper} {o : Oper} {a : Act} {Q : Exit → Act → World → Prop} (hgd : o.guard = none) (s x : Operand)
  (ho : o.op = .call { callee:=.builtin .append,args:=#[s,x],argTypes:=#[33,33] }) {B g n cap : Nat} {q : List It} (k : Nat) {sa : Addr} {sc : Nat} {y : It}
  (hs : a.eval s = .slice (some ⟨g,0,none⟩) k cap) (hx : a.eval x = .slice (some sa) 1 sc) (h : w.ownsRow B 49 4 (.slice (some ⟨g,0,none⟩) n cap) n (zU q)) (hq : q.length = n) (hk : k < n) (hr : Rd w 4 (.slice (some sa) 1 sc) 1 (g_ y))
  (hK : ∀ w',w'.ownsRow B 49 4 (.slice (some ⟨g,0,none⟩) n cap) n (zU (q.set k y)) → w.grownBy w' (some g) → wpList Tryz.prog ops Q rest (a.put o.dst (.slice (some ⟨g,0,none⟩) (k + 1) cap)) w') : wpList Tryz.prog ops Q (o :: rest) a w:=by
 obtain ⟨w',h1,h2,h3⟩:=zLw h hq k hk hr;exact Lib.wpList_append_run w hgd s x _ _ ho _ _ hs hx _ _ (h1 _) (hK w' h2 h3)
theorem zEr {q : List It} {k i : Nat} {x : It} (h : k ≤ i) : (q.set k x).drop (i + 1) = q.drop (i + 1):=List.drop_set_of_lt (by omega)
structure Pass (d out q : List It) (k i : Nat) : Prop where
 all : out ++ ud (d.drop i) = ud d
 pre : q.take k = out
 rest : q.drop i = d.drop i
 le : k ≤ i
 len : q.length = d.length
theorem Pass.keep {d out q : List It} {k i : Nat} (h : Pass d out q k i) (hi : i < d.length) (hk : i + 1 = d.length ∨ (d_ d (i + 1)).key ≠ (d_ d i).key) : Pass d (out ++ [d_ d i]) (q.set k (d_ d i)) (k + 1) (i + 1):=by
 have hle:=h.le;have Pt:=h.len;refine ⟨?_,?_,?_,by omega,by rw [bC]; exact h.len⟩
 ·
  rw [a_,← h.all]
  congr 1
  by_cases e : i + 1 = d.length
  ·
   exact (zI7 e).symm
  exact (zIW (by omega) (by rcases hk with hk | hk; exact absurd hk e; exact hk)).symm
 ·
  rw [uc q k _ (by omega),h.pre]
 rw [zEr hle,← bW,h.rest,bW]
theorem Pass.skip {d out q : List It} {k i : Nat} (h : Pass d out q k i) (hi : i + 1 < d.length) (hk : (d_ d (i + 1)).key = (d_ d i).key) : Pass d out q k (i + 1):=by
 have hle:=h.le;refine ⟨?_,h.pre,?_,by omega,h.len⟩
 ·
  rw [← h.all,zHd hi hk]
 rw [← bW,h.rest,bW]
theorem Pass.at {d out q : List It} {k i j : Nat} (h : Pass d out q k i) (hj : i ≤ j) : d_ q j = d_ d j:=by
 have h1:=xo q i (j - i);have h2:=xo d i (j - i);rw [h.rest,h2,show i + (j - i) = j by omega] at h1;exact h1.symm
theorem zGN (l : List It) (ha : G_ l = false) (hs : l.length ≤ 1000000) : wZ l:=by
 intro v w h;have HC:=zh (VB v l w h hs);have HA:=zh (fun v w h => Vr v l w h);rw [ha] at HA;have hpos : 0 < l.length:=by
  cases l with
  | nil => cases ha
  | cons x r => simp
 have HS:=zh (fun d (hm : Moved l d 0 l.length) (hn : iK d 0 l.length) => zKg (l:=l) (d:=d) (hm.B_ (aq _)) (by rw [hm.len]; exact hn));obtain ⟨a,cap,rfl,h1,h2⟩:=h.shape;have HML:=zh (fun d (hm : Moved l d 0 l.length) => hm.len);have HSS:=zh (fun g cap B w h => zCT g l.length cap B l w h rfl hs);have HOT:=zh (fun w B v (h : fu w B v l) => show w.ownsRow B 49 4 v l.length (zU l) from h);generalize hn : l.length = n at *;clear h ha hn
 go_enter Tryz.func135,Tryz.ntmps135
 go_wp2_with fail;refine HC.out.mono ?_; rintro e w1 ⟨v1,rfl,hown1,hb1⟩;have HO:=zh hown1;have HB:=zh hb1;clear hown1 hb1;go_wp2_with fail;refine (HA.out _ _ HO.out.rd).mono ?_; rintro e w2 ⟨rfl,hb2⟩;have Jr:=zh (HOT.out _ _ _ (zI HO.out hb2));have eV:=zh (zA HB.out hb2);clear hb2;obtain ⟨oa,oc,rfl,ho1,ho2,_⟩:=zM Jr.out;obtain ⟨g,rfl⟩ : ∃ g,oa = some ⟨g,0,none⟩:=by
  rcases Jr.out.2 with ⟨e,h0⟩ | ⟨g,_,_,e,_⟩
  ·
   injection e with _ e _; omega
  injection e with e; exact ⟨g,e⟩
 have hgw:=(Jr.out.lt g rfl).1;clear HO;go_wp2_with fail;refine (HSS.out g oc w.heap.size w2 Jr.out).mono ?_; rintro e w3 ⟨rfl,d,eu,Wu,Me,fh⟩;have lr:=zh eu;have HD:=zh (HS.out d Wu Me);have HL:=zh (HML.out d Wu);have gp:=zh (eV.out.grown fh eV.out.size (by intro r hr; injection hr with hr; omega));clear eu Wu Me fh Jr eV;have L_:=yX (P:=Tryz.prog) yI (a:=some ⟨g,0,none⟩) (n:=n) (cap:=oc) (fun x hx => ⟨g,0,by injection hx with hx; exact hx.symm⟩) 0 (by omega);have hoc : oc ≤ 9223372036854775807:=by unfold maxLen at ho2; omega
 go_wp2_with fail
 go_loopw [3,17] (fun ov iv wr => ∃ (k i : Nat) (out q : List It),ov = .slice (some ⟨g,0,none⟩) k oc ∧ iv = .int .i64 (i : Int) ∧ i ≤ n ∧ Pass d out q k i ∧ wr.ownsRow w.heap.size 49 4 (.slice (some ⟨g,0,none⟩) n oc) n (zU q) ∧ Below w.heap.size w wr) (fun _ iv _ => n - (intOf iv).toNat)
 case atStart => exact ⟨0,0,[],d,by rfl,by go_num,by omega,⟨by simp,rfl,rfl,ai _,rfl⟩,lr.out,gp.out⟩
 obtain ⟨k,i,out,q,rfl,rfl,hi,hp,ho,hb⟩:=hrel;have hki:=hp.le;have Hp:=zh hp;have Ho:=zh ho;have Hb:=zh hb;have hB:=hb.size;have hgr:=(ho.lt g rfl).2;have TI:=zh (hp.len.trans HL.out);clear hp ho hb
 by_cases hlt : i < n
 ·
  obtain ⟨_,_,e,c0,c1,c2,c3⟩:=(yt (zw Ho.out)).at hlt;injection e with e; injection e with e1 e2; subst e1 e2;simp only [aJ] at c0 c1 c2 c3;rw [Hp.out.at (ai _)] at c0 c1 c2 c3;have Mf:=zh (Hp.out.keep (by rw [HL.out]; exact hlt));have QI:=zh (fun h : i + 1 < n => Hp.out.skip (by rw [HL.out]; exact h));have j1 : IntKind.i64.wrap ((i : Int) + 1) = (i : Int) + 1:=aF _ (by omega)
  by_cases hend : i + 1 = n
  ·
   have hd : ((i : Int) + 1 == (n : Int)) = true:=beq_iff_eq.2 (by omega);have Jj:=zh (Mf.out (Or.inl (by rw [HL.out]; exact hend)));generalize d_ d i = x at *;go_wp2_with fail
   go_quiet (fail)
   obtain ⟨W,hW⟩ : ∃ W,(wr.alloc (.cells #[.int .u64 x.key,.int .u32 x.ck,.int .i64 x.off,.int .i64 x.size] 49)).drewN nq = W:=⟨_,rfl⟩
   have Mg:=zh (show Below wr.heap.size wr W by rw [← hW]; exact below_drewN ((aj _ _).alloc (ai _) _) _);have x0 : W.cell? ⟨wr.heap.size,0,none⟩ = some (.int .u64 x.key):=by rw [← hW]; simp
   have x1 : W.cell? ⟨wr.heap.size,1,none⟩ = some (.int .u32 x.ck):=by rw [← hW]; simp
   have x2 : W.cell? ⟨wr.heap.size,2,none⟩ = some (.int .i64 x.off):=by rw [← hW]; simp
   have x3 : W.cell? ⟨wr.heap.size,3,none⟩ = some (.int .i64 x.size):=by rw [← hW]; simp
   rw [hW];clear hW c0 c1 c2 c3 j1 hd;have Wv:=zh (zI Ho.out Mg.out);have jN:=zh (zA Hb.out Mg.out);have hW1:=jN.out.size;go_wp2_with (at_builtin; go_must (refine zAL rfl (.tmp 38) (.tmp 40) rfl k rfl rfl (Wv.out.alloc _) TI.out (by omega) (Rd.new _ 4 (g_ x) 49 1 rfl (by decide)) ?_); intro w4 fp gO);have jx:=zh fp;have fZ:=zh ((jN.out.alloc hW1 _).grown gO (by simp; omega) (by intro r hr; injection hr with hr; omega));clear fp gO;go_wp2_with fail;exact ⟨⟨k + 1,i + 1,_,_,rfl,by go_num,by omega,Jj.out,jx.out,fZ.out⟩,by simp [intOf]; omega⟩
  have hd : ((i : Int) + 1 == (n : Int)) = false:=beq_eq_false_iff_ne.2 (by omega);have hi1 : i + 1 < n:=by omega
  have i2 : (i : Int) + 1 < (n : Int):=by omega
  have i3 : (0 : Int) ≤ (i : Int) + 1:=by omega
  have i4 : ((i : Int) + 1).toNat = i + 1:=by omega
  obtain ⟨_,_,e,d0,_,_,_⟩:=(yt (zw Ho.out)).at hi1;injection e with e; injection e with e1 e2; subst e1 e2;simp only [aJ] at d0;rw [Hp.out.at (Nat.le_succ _)] at d0;have Nl:=zh (fun h => Mf.out (Or.inr h));have EL:=zh (QI.out hi1);generalize (d_ d (i + 1)).key = y at *;have hne : ∀ o n,((wr.alloc o).drewN n).cell? ⟨g,(i + 1) * 4,none⟩ = some (.int .u64 y):=fun o n => Below.keeps (below_drewN ((aj _ _).alloc (ai _) o) n) _ _ d0
  by_cases Ki : y = (d_ d i).key
  ·
   have Nn:=zh (EL.out Ki);generalize d_ d i = x at *;have hd2 : (y != x.key) = false:=by rw [Ki]; simp
   clear Ki;go_wp2_with fail
   go_quiet (fail)
   have Mg:=zh (show Below wr.heap.size wr ((wr.alloc (.cells #[.int .u64 x.key,.int .u32 x.ck,.int .i64 x.off,.int .i64 x.size] 49)).drewN nq) from below_drewN ((aj _ _).alloc (ai _) _) _);clear j1 hd i2 i3 i4;go_wp2_with fail;exact ⟨⟨k,i + 1,_,_,rfl,by go_num,by omega,Nn.out,zI Ho.out Mg.out,zA Hb.out Mg.out⟩,by simp [intOf]; omega⟩
  have Jj:=zh (Nl.out Ki);have hd2 : (y != (d_ d i).key) = true:=bne_iff_ne.2 Ki;clear Ki;generalize d_ d i = x at *;go_wp2_with fail
  go_quiet (fail)
  obtain ⟨W,hW⟩ : ∃ W,(wr.alloc (.cells #[.int .u64 x.key,.int .u32 x.ck,.int .i64 x.off,.int .i64 x.size] 49)).drewN nq = W:=⟨_,rfl⟩
  have Mg:=zh (show Below wr.heap.size wr W by rw [← hW]; exact below_drewN ((aj _ _).alloc (ai _) _) _);have x0 : W.cell? ⟨wr.heap.size,0,none⟩ = some (.int .u64 x.key):=by rw [← hW]; simp
  have x1 : W.cell? ⟨wr.heap.size,1,none⟩ = some (.int .u32 x.ck):=by rw [← hW]; simp
  have x2 : W.cell? ⟨wr.heap.size,2,none⟩ = some (.int .i64 x.off):=by rw [← hW]; simp
  have x3 : W.cell? ⟨wr.heap.size,3,none⟩ = some (.int .i64 x.size):=by rw [← hW]; simp
  rw [hW];clear hW c0 c1 c2 c3 j1 hd i2 i3 i4 hd2 d0 hne;have Wv:=zh (zI Ho.out Mg.out);have jN:=zh (zA Hb.out Mg.out);have hW1:=jN.out.size;go_wp2_with (at_builtin; go_must (refine zAL rfl (.tmp 38) (.tmp 40) rfl k rfl rfl (Wv.out.alloc _) TI.out (by omega) (Rd.new _ 4 (g_ x) 49 1 rfl (by decide)) ?_); intro w4 fp gO);have jx:=zh fp;have fZ:=zh ((jN.out.alloc hW1 _).grown gO (by simp; omega) (by intro r hr; injection hr with hr; omega));clear fp gO;go_wp2_with fail;exact ⟨⟨k + 1,i + 1,_,_,rfl,by go_num,by omega,Jj.out,jx.out,fZ.out⟩,by simp [intOf]; omega⟩
 obtain rfl : i = n:=by omega
 have HE:=zh (show out = fE l by
  have h:=Hp.out.all
  rw [List.drop_eq_nil_of_le (by rw [HL.out]; exact ai _),show ud [] = [] from rfl,bB] at h
  exact h.trans HD.out)
 have HT:=zh (vr Ho.out k hki);have lU:=zh Hp.out.pre;go_wp2_with fail;go_ret;exact ⟨_,rfl,yO HT.out (by rw [← xu,lU.out,HE.out]),Hb.out⟩
theorem wP (l : List It) (hs : l.length ≤ 1000000) : wZ l:=by
 cases ha : G_ l with
 | true => exact zGV l ((tF l).1 ha) hs
 | false => exact zGN l ha hs
theorem zH4 (v : Value) (l : List It) (key : Int) (w : World) (h : i_ w v l) (hs : l.length ≤ 1000000) :
  Calls Tryz.prog 165 #[v,.int .u64 key] w fun e w' => e = .returned (.tuple #[jS ((fJ (fE l) key).getD fM),.bool (fJ (fE l) key).isSome]) ∧ Below w.heap.size w w':=by
 obtain ⟨a,cap,rfl,_,_⟩:=h.shape;have HA:=zh (fun r (h1 : r < l.length) h2 h3 => zLG (l:=l) (key:=key) (r:=r) h1 h2 h3);have HN:=zh (fun h => zIB (l:=l) (key:=key) h);generalize fJ (fE l) key = ff at *;generalize hn : l.length = n at *;have Hr:=zh h;have HW:=zh (show Below w.heap.size w (w.alloc (.cells #[.int .u64 0,.int .u32 0,.int .i64 0,.int .i64 0] 49)) from zz w fM);have HX:=zh (jL.new w fM);clear h hn
 go_enter Tryz.func165,Tryz.ntmps165
 go_wp2_with fail
 go_loop [6] (fun iv => ∃ i : Nat,iv = .int .i64 ((i : Int) - 1) ∧ i ≤ n ∧ Hid (∀ j,i ≤ j → j < n → (d_ l j).key ≠ key)) (fun iv => (intOf iv + 1).toNat)
 case atStart => exact ⟨n,by go_num,ai _,fun j h1 h2 => by omega⟩
 obtain ⟨i,rfl,hi,hno⟩:=hrel
 by_cases h0 : 0 < i
 ·
  obtain ⟨r,rfl⟩ : ∃ r,i = r + 1:=⟨i - 1,by omega⟩
  obtain ⟨b,off,rfl,c0,c1,c2,c3⟩:=(Hr.out.below HW.out).at (show r < n by omega);have e0 : ((r + 1 : Nat) : Int) - 1 = (r : Int):=by omega
  have i1 : (r : Int) < (n : Int):=by omega
  by_cases hk : (d_ l r).key = key
  ·
   have HF:=zh (HA.out r (by omega) hk (fun j h1 h2 => hno.out j (by omega) h2));have hd : ((d_ l r).key == key) = true:=beq_iff_eq.2 hk;rw [e0];generalize d_ l r = x at *;clear hk e0 h0;go_wp2_with fail;exact au (v:=.tuple #[jS x,.bool true]) (by simp [results,Tryz.results165,go_sem]) rfl ⟨by rw [HF.out]; rfl,zz w x⟩
  have hd : ((d_ l r).key == key) = false:=beq_eq_false_iff_ne.2 hk;have HK:=zh hk;rw [e0];generalize hx : (d_ l r).key = x at *;have gm:=zh hx;clear hk e0 h0 hx;go_wp2_with fail;refine ⟨⟨r,by go_num,by omega,fun j h1 h2 => ?_⟩,by simp [intOf]⟩
  by_cases e : j = r
  ·
   rw [e,gm.out]; exact HK.out
  exact hno.out j (by omega) h2
 obtain rfl : i = 0:=by omega
 have HF:=zh (HN.out (fun j hj => hno.out j (aq _) hj));go_wp2_with fail;exact au (v:=.tuple #[jS fM,.bool false]) (by simp [results,Tryz.results165,go_sem,fM]) rfl ⟨by rw [HF.out]; rfl,zz w fM⟩
theorem kS (W : World) (x : It) : Rd (W.alloc (xO x)) 4 (.slice (some ⟨W.heap.size,0,none⟩) 1 1) 1 (g_ x):=Rd.new W 4 (g_ x) 49 1 rfl (by decide)
theorem zHs (v : Value) (l : List It) (key : Int) (w : World) (h : i_ w v l) (hs : l.length ≤ 1000000) :
  Calls Tryz.prog 126 #[v,.int .u64 key] w fun e w' => ∃ v',e = .returned v' ∧ fu w' w.heap.size v' (gB (fE l) key) ∧ Below w.heap.size w w':=by
 have HS:=zh (qX v l w h hs);have hsl:=yZ l;obtain ⟨a,cap,rfl,_,_⟩:=h.shape;generalize fE l = s at *;have HD:=zh (fun i (h : i < s.length) => show gB (s.take (i + 1)) key = gB (s.take i) key ++ if (d_ s i).key = key then [] else [d_ s i] by rw [xH h,zJg]);have HE:=zh (show gB (s.take s.length) key = gB s key by rw [cm]);have HL:=zh (fun i => show (gB (s.take i) key).length ≤ s.length from ak (uy _ _) (by rw [ay]; omega));clear h
 go_enter Tryz.func126,Tryz.ntmps126
 go_wp2_with fail;refine HS.out.mono ?_; rintro e w1 ⟨v1,rfl,hown1,hb1⟩;have HR:=zh hown1.rd;have eW:=zh hb1;have hB1:=hb1.size;clear hown1 hb1 HS;obtain ⟨sa,sc,rfl,hs1,hs2⟩:=HR.out.shape;have hs3:=IC hs1 hs2;generalize hn : s.length = n at *;clear hn;go_wp2_with fail
 go_loopw [5,6] (fun ov iv wr => ∃ i : Nat,iv = .int .i64 (i : Int) ∧ i ≤ n ∧ fu wr w1.heap.size ov (gB (s.take i) key) ∧ Below w1.heap.size w1 wr) (fun _ iv _ => n - (intOf iv).toNat)
 case atStart => exact ⟨0,by go_num,by omega,aU _ _ _ _,aj _ _⟩
 obtain ⟨i,rfl,hi,hown,hb⟩:=hrel;have HO:=zh (show wr.ownsRow w1.heap.size 49 4 _ (gB (s.take i) key).length (zU (gB (s.take i) key)) from hown);have Hb:=zh hb;have hB:=hb.size;clear hown hb
 by_cases hlt : i < n
 ·
  obtain ⟨b,off,rfl,c0,c1,c2,c3⟩:=(HR.out.below Hb.out).at hlt;have i1 : (i : Int) < (n : Int):=by omega
  have TJ:=zh (HD.out i hlt);have hLi:=HL.out i
  by_cases hk : (d_ s i).key = key
  ·
   have hd : ((d_ s i).key != key) = false:=by rw [hk]; simp
   rw [ag hk,bB] at TJ;generalize d_ s i = x at *;clear hk;go_wp2_with fail;exact ⟨⟨i + 1,by go_num,by omega,by rw [TJ.out]; exact HO.out,Hb.out⟩,by simp [intOf]; omega⟩
  have hd : ((d_ s i).key != key) = true:=bne_iff_ne.2 hk;rw [ah hk] at TJ;generalize d_ s i = x at *;generalize gB (s.take i) key = o at *;clear hk;go_wp2_with (at_builtin; go_must (refine zi (m:=1) (n:=o.length) rfl (.tmp 22) (.tmp 27) 33 rfl yI w1.heap.size rfl (HO.out.alloc _) rfl (kS wr x) (zp [x]) (by unfold maxLen; omega) (by omega) (by simp; omega) ?_); intro v8 w8 fO ig EM; clear EM);have A_:=zh (show fu w8 w1.heap.size v8 (o ++ [x]) from yO fO (by simp only [zt,xU]));have mF:=zh (zL (Hb.out.alloc hB (xO x)) (HO.out.alloc (xO x)) (by simp; omega) ig);clear fO ig;go_wp2_with fail;exact ⟨⟨i + 1,by go_num,by omega,by rw [TJ.out]; exact A_.out,mF.out⟩,by simp [intOf]; omega⟩
 obtain rfl : i = n:=by omega
 go_wp2_with fail;go_ret;exact ⟨_,rfl,by rw [← HE.out]; exact HO.out.mono hB1,eW.out.trans (Hb.out.mono hB1)⟩
theorem zJ9 (v : Value) (l : List It) (x : It) (w : World) (h : i_ w v l) (hs : l.length ≤ 1000000) :
  Calls Tryz.prog 128 #[v,jS x] w fun e w' => ∃ v',e = .returned v' ∧ fu w' w.heap.size v' (ins (fE l) x) ∧ Below w.heap.size w w':=by
 have HS:=zh (fun w h => qX v l w h hs);have HBX:=zh (jL.new w x);have eQ:=zh (zz w x);have Hr:=zh (h.below eQ.out);have hsl:=yZ l;have hsa:=zh (vF l);obtain ⟨a,cap,rfl,_,_⟩:=h.shape;generalize fE l = s at *;have HE1:=zh (fun out (h : gK s x s.length true out) => h.VW);have HE0:=zh (fun out (h : gK s x s.length false out) => h.VX);have Ww:=zh (fun i out (h : gK s x i false out) (hi : i < s.length) => h.low hi);have QJ:=zh (fun i out (h : gK s x i false out) (hi : i < s.length) => h.here hi);have Np:=zh (fun i out (h : gK s x i false out) (hi : i < s.length) => h.ahead hi);have QK:=zh (fun i out (h : gK s x i true out) (hi : i < s.length) => h.more hi);have Wx:=zh (fun i out (h : gK s x i true out) (hi : i < s.length) => h.gt hsa.out hi);clear h
 go_enter Tryz.func128,Tryz.ntmps128
 go_wp2_with fail;refine (HS.out _ Hr.out).mono ?_; rintro e w1 ⟨v1,rfl,hown1,hb1⟩;have HR:=zh hown1.rd;have fC:=zh (HBX.out.below hb1);have eW:=zh (zA eQ.out hb1);have hB1:=eW.out.size;clear hown1 hb1 HS HBX eQ;obtain ⟨sa,sc,rfl,hs1,hs2⟩:=HR.out.shape;have hs3:=IC hs1 hs2;generalize hn : s.length = n at *;clear hn;go_wp2_with fail
 go_loopw [5,6,7] (fun ov dv iv wr => ∃ (i : Nat) (d : Bool) (out : List It),dv = .bool d ∧ iv = .int .i64 (i : Int) ∧ i ≤ n ∧ Hid (gK s x i d out) ∧ fu wr w1.heap.size ov out ∧ Below w1.heap.size w1 wr) (fun _ _ iv _ => n - (intOf iv).toNat)
 case atStart => exact ⟨0,false,[],rfl,by go_num,by omega,gK.start s x,aU _ _ _ _,aj _ _⟩
 obtain ⟨i,d,out,rfl,rfl,hi,HP,hown,hb⟩:=hrel;have HO:=zh (show wr.ownsRow w1.heap.size 49 4 _ out.length (zU out) from hown);have Hb:=zh hb;have hB:=hb.size;have hlo:=HP.out.len;obtain ⟨x0,x1,x2,x3⟩:=fC.out.below hb;clear hown hb
 by_cases hlt : i < n
 ·
  obtain ⟨b,off,rfl,c0,c1,c2,c3⟩:=(HR.out.below Hb.out).at hlt;have i1 : (i : Int) < (n : Int):=by omega
  have jy:=zh (fC.out.below Hb.out);have QL:=zh (show ∃ y,d_ s i = y from ⟨_,rfl⟩);obtain ⟨y,hy⟩:=QL.out;have HY:=zh hy;have K5:=Hb;have K6:=HO;rw [hy] at c0 c1 c2 c3
  cases d with
  | true =>
   have HG:=Wx.out i out HP.out hlt;have HM:=zh (QK.out i out HP.out hlt);rw [hy] at HG HM;have hd : (y.key != x.key) = true:=bne_iff_ne.2 (by omega);clear hy QL HG Hb HO;go_wp2_with fail
   go_quiet (fail)
   obtain ⟨wa,hW,l8⟩ : ∃ wa,wr.drewN nq = wa ∧ Below wr.heap.size wr wa:=⟨_,rfl,below_drewN (aj _ _) _⟩
   rw [hW];clear hW;have jb:=zh (zA K5.out l8);have Di:=zh (zI K6.out l8);clear c0 c1 c2 c3 x0 x1 x2 x3 l8;obtain ⟨_,_,e,c0,c1,c2,c3⟩:=(HR.out.below jb.out).at hlt;injection e with e; injection e with e1 e2; subst e1 e2;rw [HY.out] at c0 c1 c2 c3;obtain ⟨x0,x1,x2,x3⟩:=fC.out.below jb.out;go_wp2_with fail
   go_quiet (fail)
   obtain ⟨wb,hW,EN⟩ : ∃ wb,wa.drewN nq = wb ∧ Below wa.heap.size wa wb:=⟨_,rfl,below_drewN (aj _ _) _⟩
   rw [hW];clear hW;have jc:=zh (zA jb.out EN);have Dj:=zh (zI Di.out EN);clear c0 c1 c2 c3 x0 x1 x2 x3 EN;obtain ⟨_,_,e,c0,c1,c2,c3⟩:=(HR.out.below jc.out).at hlt;injection e with e; injection e with e1 e2; subst e1 e2;rw [HY.out] at c0 c1 c2 c3;obtain ⟨x0,x1,x2,x3⟩:=fC.out.below jc.out;go_wp2_with (at_builtin; go_must (refine zi (m:=1) rfl (.tmp 40) (.tmp 45) 33 rfl yI w1.heap.size rfl (Dj.out.alloc _) rfl (kS wb y) (zp [y]) (by unfold maxLen; omega) (by omega) (by have:=jc.out.size; simp; omega) ?_); intro Wy wc fO ig EM; clear EM);have Ed:=zh (show wc.ownsRow w1.heap.size 49 4 Wy (out ++ [y]).length (zU (out ++ [y])) from yO fO (by simp only [zt,xU]));have mG:=zh (zL (jc.out.alloc jc.out.size (xO y)) (Dj.out.alloc (xO y)) (by have:=jc.out.size; simp; omega) ig);clear fO ig;go_wp2_with fail
   exact ⟨⟨i + 1,true,_,rfl,by go_num,by omega,HM,Ed.out,mG.out⟩,by simp [intOf]; omega⟩
  | false =>
   rcases Int.lt_trichotomy y.key x.key with hk | hk | hk
   ·
    have HM:=zh (Ww.out i out HP.out hlt (by rw [hy]; exact hk));rw [hy] at HM;have hd : (y.key != x.key) = true:=bne_iff_ne.2 (by omega);have hd2 : decide (x.key ≤ y.key) = false:=aC (by omega);clear hy QL hk Hb HO;go_wp2_with fail
    go_quiet (fail)
    obtain ⟨wa,hW,l8⟩ : ∃ wa,wr.drewN nq = wa ∧ Below wr.heap.size wr wa:=⟨_,rfl,below_drewN (aj _ _) _⟩
    rw [hW];clear hW;have jb:=zh (zA K5.out l8);have Di:=zh (zI K6.out l8);clear c0 c1 c2 c3 x0 x1 x2 x3 l8;obtain ⟨_,_,e,c0,c1,c2,c3⟩:=(HR.out.below jb.out).at hlt;injection e with e; injection e with e1 e2; subst e1 e2;rw [HY.out] at c0 c1 c2 c3;obtain ⟨x0,x1,x2,x3⟩:=fC.out.below jb.out;go_wp2_with fail
    go_quiet (fail)
    obtain ⟨wb,hW,EN⟩ : ∃ wb,wa.drewN nq = wb ∧ Below wa.heap.size wa wb:=⟨_,rfl,below_drewN (aj _ _) _⟩
    rw [hW];clear hW;have jc:=zh (zA jb.out EN);have Dj:=zh (zI Di.out EN);clear c0 c1 c2 c3 x0 x1 x2 x3 EN;obtain ⟨_,_,e,c0,c1,c2,c3⟩:=(HR.out.below jc.out).at hlt;injection e with e; injection e with e1 e2; subst e1 e2;rw [HY.out] at c0 c1 c2 c3;obtain ⟨x0,x1,x2,x3⟩:=fC.out.below jc.out;go_wp2_with (at_builtin; go_must (refine zi (m:=1) rfl (.tmp 40) (.tmp 45) 33 rfl yI w1.heap.size rfl (Dj.out.alloc _) rfl (kS wb y) (zp [y]) (by unfold maxLen; omega) (by omega) (by have:=jc.out.size; simp; omega) ?_); intro Wy wc fO ig EM; clear EM);have Ed:=zh (show wc.ownsRow w1.heap.size 49 4 Wy (out ++ [y]).length (zU (out ++ [y])) from yO fO (by simp only [zt,xU]));have mG:=zh (zL (jc.out.alloc jc.out.size (xO y)) (Dj.out.alloc (xO y)) (by have:=jc.out.size; simp; omega) ig);clear fO ig;go_wp2_with fail
    exact ⟨⟨i + 1,false,_,rfl,by go_num,by omega,HM,Ed.out,mG.out⟩,by simp [intOf]; omega⟩
   ·
    have HM:=zh (QJ.out i out HP.out hlt (by rw [hy]; exact hk));have hd : (y.key != x.key) = false:=by rw [hk]; simp
    have hd2 : decide (x.key ≤ y.key) = true:=aD (by omega);have IJ : x.key ≤ y.key:=by omega
    clear hy QL hk Hb HO;go_wp2_with fail
    go_quiet (fail)
    obtain ⟨wa,hW,l8⟩ : ∃ wa,wr.drewN nq = wa ∧ Below wr.heap.size wr wa:=⟨_,rfl,below_drewN (aj _ _) _⟩
    rw [hW];clear hW;have jb:=zh (zA K5.out l8);have Di:=zh (zI K6.out l8);clear c0 c1 c2 c3 x0 x1 x2 x3 l8;obtain ⟨_,_,e,c0,c1,c2,c3⟩:=(HR.out.below jb.out).at hlt;injection e with e; injection e with e1 e2; subst e1 e2;rw [HY.out] at c0 c1 c2 c3;obtain ⟨x0,x1,x2,x3⟩:=fC.out.below jb.out;go_upto_region 9 with (at_builtin; go_must (refine zi (m:=1) rfl (.tmp 28) (.tmp 30) 33 rfl yI w1.heap.size rfl (Di.out.alloc _) rfl (kS wa x) (zp [x]) (by unfold maxLen; omega) (by omega) (by have:=jb.out.size; simp; omega) ?_); intro WA wb fO ig EM; clear EM);have Dj:=zh (show wb.ownsRow w1.heap.size 49 4 WA (out ++ [x]).length (zU (out ++ [x])) from yO fO (by simp only [zt,xU]));have jc:=zh (zL (jb.out.alloc jb.out.size (xO x)) (Di.out.alloc (xO x)) (by have:=jb.out.size; simp; omega) ig);clear fO ig;clear c0 c1 c2 c3 x0 x1 x2 x3
    obtain ⟨_,_,e,c0,c1,c2,c3⟩:=(HR.out.below jc.out).at hlt;injection e with e; injection e with e1 e2; subst e1 e2;rw [HY.out] at c0 c1 c2 c3;obtain ⟨x0,x1,x2,x3⟩:=fC.out.below jc.out;go_wp2_with fail
    go_quiet (fail)
    obtain ⟨wc,hW,EO⟩ : ∃ wc,wb.drewN nq = wc ∧ Below wb.heap.size wb wc:=⟨_,rfl,below_drewN (aj _ _) _⟩
    rw [hW];clear hW;have mG:=zh (zA jc.out EO);have Ed:=zh (zI Dj.out EO);clear c0 c1 c2 c3 x0 x1 x2 x3 EO;obtain ⟨_,_,e,c0,c1,c2,c3⟩:=(HR.out.below mG.out).at hlt;injection e with e; injection e with e1 e2; subst e1 e2;rw [HY.out] at c0 c1 c2 c3;obtain ⟨x0,x1,x2,x3⟩:=fC.out.below mG.out;go_wp2_with fail;exact ⟨⟨i + 1,true,_,rfl,by go_num,by omega,HM,Ed.out,mG.out⟩,by simp [intOf]; omega⟩
   have HM:=zh (Np.out i out HP.out hlt (by rw [hy]; exact hk));rw [hy] at HM;have hd : (y.key != x.key) = true:=bne_iff_ne.2 (by omega);have hd2 : decide (x.key ≤ y.key) = true:=aD (by omega);have IJ : x.key ≤ y.key:=by omega
   clear hy QL hk Hb HO;go_wp2_with fail
   go_quiet (fail)
   obtain ⟨wa,hW,l8⟩ : ∃ wa,wr.drewN nq = wa ∧ Below wr.heap.size wr wa:=⟨_,rfl,below_drewN (aj _ _) _⟩
   rw [hW];clear hW;have jb:=zh (zA K5.out l8);have Di:=zh (zI K6.out l8);clear c0 c1 c2 c3 x0 x1 x2 x3 l8;obtain ⟨_,_,e,c0,c1,c2,c3⟩:=(HR.out.below jb.out).at hlt;injection e with e; injection e with e1 e2; subst e1 e2;rw [HY.out] at c0 c1 c2 c3;obtain ⟨x0,x1,x2,x3⟩:=fC.out.below jb.out;go_upto_region 9 with (at_builtin; go_must (refine zi (m:=1) rfl (.tmp 28) (.tmp 30) 33 rfl yI w1.heap.size rfl (Di.out.alloc _) rfl (kS wa x) (zp [x]) (by unfold maxLen; omega) (by omega) (by have:=jb.out.size; simp; omega) ?_); intro WA wb fO ig EM; clear EM);have Dj:=zh (show wb.ownsRow w1.heap.size 49 4 WA (out ++ [x]).length (zU (out ++ [x])) from yO fO (by simp only [zt,xU]));have jc:=zh (zL (jb.out.alloc jb.out.size (xO x)) (Di.out.alloc (xO x)) (by have:=jb.out.size; simp; omega) ig);clear fO ig;clear c0 c1 c2 c3 x0 x1 x2 x3
   obtain ⟨_,_,e,c0,c1,c2,c3⟩:=(HR.out.below jc.out).at hlt;injection e with e; injection e with e1 e2; subst e1 e2;rw [HY.out] at c0 c1 c2 c3;obtain ⟨x0,x1,x2,x3⟩:=fC.out.below jc.out;go_wp2_with fail
   go_quiet (fail)
   obtain ⟨wc,hW,EO⟩ : ∃ wc,wb.drewN nq = wc ∧ Below wb.heap.size wb wc:=⟨_,rfl,below_drewN (aj _ _) _⟩
   rw [hW];clear hW;have mG:=zh (zA jc.out EO);have Ed:=zh (zI Dj.out EO);clear c0 c1 c2 c3 x0 x1 x2 x3 EO;obtain ⟨_,_,e,c0,c1,c2,c3⟩:=(HR.out.below mG.out).at hlt;injection e with e; injection e with e1 e2; subst e1 e2;rw [HY.out] at c0 c1 c2 c3;obtain ⟨x0,x1,x2,x3⟩:=fC.out.below mG.out;go_wp2_with (at_builtin; go_must (refine zi (m:=1) rfl (.tmp 40) (.tmp 45) 33 rfl yI w1.heap.size rfl (Ed.out.alloc _) rfl (kS wc y) (zp [y]) (by unfold maxLen; simp only [ax,List.length_singleton]; omega) (by simp only [ax,List.length_singleton]; omega) (by have:=mG.out.size; simp; omega) ?_); intro vwd wd fO ig EM; clear EM);have WB:=zh (show wd.ownsRow w1.heap.size 49 4 vwd ((out ++ [x]) ++ [y]).length (zU ((out ++ [x]) ++ [y])) from yO fO (by simp only [zt,xU]))
   have WC:=zh (zL (mG.out.alloc mG.out.size (xO y)) (Ed.out.alloc (xO y)) (by have:=mG.out.size; simp; omega) ig);clear fO ig;go_wp2_with fail;exact ⟨⟨i + 1,true,_,rfl,by go_num,by omega,HM,WB.out,WC.out⟩,by simp [intOf]; omega⟩
 obtain rfl : i = n:=by omega
 cases d with
 | true =>
  have HE:=zh (HE1.out out HP.out);go_wp2_with fail;go_ret;exact ⟨_,rfl,by rw [← HE.out]; exact HO.out.mono hB1,eW.out.trans (Hb.out.mono hB1)⟩
 | false =>
  have HE:=zh (HE0.out out HP.out);go_wp2_with (at_builtin; go_must (refine zi (m:=1) (n:=out.length) rfl (.tmp 49) (.tmp 51) 33 rfl yI w1.heap.size rfl (HO.out.alloc _) rfl (kS wr x) (zp [x]) (by unfold maxLen; omega) (by omega) (by simp; omega) ?_); intro v8 w8 fO ig EM; clear EM);have A_:=zh (show fu w8 w1.heap.size v8 (out ++ [x]) from yO fO (by simp only [zt,xU]));have mF:=zh (zL (Hb.out.alloc hB (xO x)) (HO.out.alloc (xO x)) (by simp; omega) ig);clear fO ig;go_wp2_with fail;go_ret;exact ⟨_,rfl,by rw [← HE.out]; exact A_.out.mono hB1,eW.out.trans (mF.out.mono hB1)⟩
def zG (M : Mp) : List It:=if xA M = true then fE (vS M) else []
def zR (M : Mp) (key : Int) : Option It:=if xA M = true then fJ (M.st (zg key)) key else none
theorem yb (M : Mp) : jX (zG M):=by
 unfold zG
 split
 ·
  exact vF _
 exact fun j h => by simp at h
theorem vu (M : Mp) (key : Int) : fJ (fE (zG M)) key = zR M key:=by
 rw [yQ (yb M)];unfold zG zR
 split
 ·
  rename_i h; exact ((zO M).1 h).fJ key
 rfl
theorem qD {M : Mp} (h : ∀ i,i < 8 → (M.st i).length ≤ 10000) : (vS M).length ≤ 80000:=kI (M:=M) (B:=10000) h 8 (ai _)
theorem wR {M : Mp} (h : ∀ i,i < 8 → (M.st i).length ≤ 10000) : (zG M).length ≤ 80000:=by
 unfold zG
 split
 ·
  exact ak (yZ _) (qD h)
 simp
theorem zHW (v : Value) (l : List It) (w : World) (h : i_ w v l) (hs : l.length ≤ 80000) :
  Calls Tryz.prog 132 #[.slice none 0 0,v,.slice none 0 0] w fun e w' => ∃ v',e = .returned v' ∧ fu w' w.heap.size v' (fE l) ∧ Below w.heap.size w w':=by
 have:=zIK (.slice none 0 0) v (.slice none 0 0) [] l [] w (yt (zw (aU w 0 49 4))) h (kq (aU w 0 24 1)) (wP _ (by simp)) (wP _ (by omega)) (wP _ (by have:=yZ l; rw [ax]; have h0:=zAz [] (fE []); rw [zGx] at h0 ⊢; simp at h0; simp [h0]; omega)) (by simp) (by omega)
 rwa [zLP] at this
theorem zB1 (s : Sl) (M : Mp) (w : World) (h : fq w s M.st) (hs : ∀ i,i < 8 → (M.st i).length ≤ 10000) :
  Calls Tryz.prog 89 #[yK s M.live M.dZ] w fun e w' => ∃ v',e = .returned v' ∧ fu w' w.heap.size v' (zG M) ∧ Below w.heap.size w w':=by
 have HV:=zh (fun W h => vz s M W h (fun i hi => ak (hs i hi) (by decide)));have eG:=zh (eM.new w s M.live M.dZ 36);have eQ:=zh (za w s M.live M.dZ 36);have Hr:=zh h;have HC:=zh (fun b W hx h => zGJ b s M.live M.dZ M.st W hx h (ak (qD hs) (by decide)));have HM:=zh (fun v W h => zHW v (vS M) W h (qD hs));have HI:=zh (show zG M = if xA M = true then fE (vS M) else [] from rfl);rw [show cat M.st 8 = vS M from rfl] at HC;clear h hs;generalize xA M = vb at *;generalize vS M = A at *;generalize zG M = I at *;obtain ⟨f,L,G⟩:=M;dsimp only at *
 go_enter Tryz.func89,Tryz.ntmps89
 go_wp2_with fail;refine (HV.out _ (Hr.out.below eQ.out)).mono ?_; rintro e w1 ⟨rfl,hb1⟩;have eW:=zh (zA eQ.out hb1);have fC:=zh (eG.out.below hb1);have eY:=zh (Hr.out.below eW.out);clear hb1 HV eG eQ
 cases vb
 ·
  go_wp2_with fail;go_ret;exact ⟨_,rfl,by rw [HI.out,ah (by decide)]; exact aU _ _ _ _,eW.out⟩
 rw [ag rfl] at HI;go_wp2_with fail;refine (HC.out _ _ fC.out eY.out).mono ?_; rintro e w2 ⟨v2,rfl,eC,hb2⟩;have eV:=zh (zA eW.out hb2);have gj:=zh eC.rd;have HMg:=zh (HM.out v2 w2 eC.rd);clear eC hb2;go_wp2_with fail;refine HMg.out.mono ?_; rintro e w3 ⟨v3,rfl,eu,hb3⟩;have lr:=zh (eu.mono eV.out.size);have gp:=zh (zA eV.out hb3);clear eu hb3;go_wp2_with fail;go_ret;exact ⟨_,rfl,by rw [HI.out]; exact lr.out,gp.out⟩
structure gG (W : World) (b : Nat) (x : It) : Prop where
 t : jL W b x
 f : ∀ i,W.frozen? ⟨b,i,none⟩ = false
theorem gG.new (w : World) (x : It) : gG (w.alloc (xO x)) w.heap.size x:=⟨jL.new w x,fun i => by simp⟩
theorem gG.lt {W : World} {b : Nat} {x : It} (h : gG W b x) : b < W.heap.size:=cZ _ ⟨b,0,none⟩ h.t.c0
theorem gG.below {W W' : World} {b : Nat} {x : It} (h : gG W b x) (hb : Below W.heap.size W W') : gG W' b x:=⟨h.t.below hb,fun i => (hb.frozen (p:=⟨b,i,none⟩) h.lt).trans (h.f i)⟩
theorem gG.ep {W : World} {b : Nat} {x : It} (h : gG W b x) {p : Addr} (hp : p.block ≠ b) (u : Value) : gG (W.setCell p u) b x:=by
 have ne : ∀ i,p ≠ ⟨b,i,none⟩:=fun i e => hp (by rw [e])
 exact ⟨⟨(cu (h:=ne 0) ..).trans h.t.c0,(cu (h:=ne 1) ..).trans h.t.c1,(cu (h:=ne 2) ..).trans h.t.c2,(cu (h:=ne 3) ..).trans h.t.c3⟩,fun i => by simp [h.f]⟩
theorem gG.mD {W : World} {b c : Nat} {x : It} (h : gG W b x) (hp : c ≠ b) (s' : Sl) (l' g' : Int) : gG (yH W c s' l' g') b x:=
 (((((((((h.ep (p:=⟨c,0,none⟩) hp _).ep (p:=⟨c,1,none⟩) hp _).ep (p:=⟨c,2,none⟩) hp _).ep (p:=⟨c,3,none⟩) hp _).ep (p:=⟨c,4,none⟩) hp _).ep (p:=⟨c,5,none⟩) hp _).ep (p:=⟨c,6,none⟩) hp _).ep (p:=⟨c,7,none⟩) hp _).ep (p:=⟨c,8,none⟩) hp _).ep (p:=⟨c,9,none⟩) hp _
def K7 (W : World) (b : Nat) (y : It) : World:=(((W.setCell ⟨b,0,none⟩ (.int .u64 y.key)).setCell ⟨b,1,none⟩ (.int .u32 y.ck)).setCell ⟨b,2,none⟩ (.int .i64 y.off)).setCell ⟨b,3,none⟩ (.int .i64 y.size)
theorem gG.put {W : World} {b : Nat} {x : It} (h : gG W b x) (y : It) : gG (K7 W b y) b y:=⟨h.t.set y,fun i => by simp [K7,h.f]⟩
theorem tD {B b : Nat} {w0 W : World} (h : Below B w0 W) (hb : B ≤ b) (y : It) : Below B w0 (K7 W b y):=(((h.setCell hb _).setCell hb _).setCell hb _).setCell hb _
theorem zKX (s : Sl) (M : Mp) (w : World) (h : fq w s M.st) (hs : ∀ i,i < 8 → (M.st i).length ≤ 10000) :
  Calls Tryz.prog 86 #[yK s M.live M.dZ] w fun e w' => e = .returned (.int .i64 ((zG M).length : Int)) ∧ Below w.heap.size w w':=by
 have eQ:=zh (za w s M.live M.dZ 36);have HI:=zh (zB1 s M _ (h.below eQ.out) hs);generalize zG M = I at *;clear h hs;obtain ⟨f,L,G⟩:=M;dsimp only at *
 go_enter Tryz.func86,Tryz.ntmps86
 go_wp2_with fail;refine HI.out.mono ?_; rintro e w1 ⟨v1,rfl,hown1,hb1⟩;have eW:=zh (zA eQ.out hb1);obtain ⟨a,c,hv,_⟩:=zM hown1;subst hv;clear hown1 hb1;go_wp2_with fail;go_ret;exact ⟨rfl,eW.out⟩
theorem zFW (s : Sl) (M : Mp) (key : Int) (w : World) (h : fq w s M.st) (hs : ∀ i,i < 8 → (M.st i).length ≤ 10000) :
  Calls Tryz.prog 95 #[yK s M.live M.dZ,.int .u64 key] w fun e w' => e = .returned (.tuple #[jS ((zR M key).getD fM),.bool (zR M key).isSome]) ∧ Below w.heap.size w w':=by
 have HV:=zh (fun W h => vz s M W h (fun i hi => ak (hs i hi) (by decide)));have eG:=zh ((eM.new w s M.live M.dZ 36).below (zz (w.alloc (.cells (yj s M.live M.dZ) 36)) fM));have Nq:=zh (gG.new (w.alloc (.cells (yj s M.live M.dZ) 36)) fM);rw [show (w.alloc (.cells (yj s M.live M.dZ) 36)).heap.size = w.heap.size + 1 by simp] at Nq;have eQ:=zh (zA (za w s M.live M.dZ 36) (zz (w.alloc (.cells (yj s M.live M.dZ) 36)) fM));have Hr:=zh h;have jI:=we key;have HF:=zh (fun W h => zEO (s.v (zg key)) (M.st (zg key)) key W h (wP _ (ak (hs _ jI) (by decide))) (ak (hs _ jI) (by decide)));have HS:=zh (fun W => tQ key W);have HI:=zh (show zR M key = if xA M = true then fJ (M.st (zg key)) key else none from rfl);have HA:=zh (fun h : xA M = true => yQ (uV (((zO M).1 h).ok _ jI)));have C5:=zh (fun W (hb : Below w.heap.size w W) => (h (zg key) jI).below hb);clear h hs
 generalize zR M key = o at *;generalize xA M = vb at *;generalize zg key = k at *;obtain ⟨f,L,G⟩:=M;dsimp only at *
 go_enter Tryz.func95,Tryz.ntmps95
 go_wp2_with fail;refine (HV.out _ (Hr.out.below eQ.out)).mono ?_; rintro e w1 ⟨rfl,hb1⟩;have eW:=zh (zA eQ.out hb1);have fC:=zh (eG.out.below hb1);have Mh:=zh (Nq.out.below hb1);clear hb1 HV eG eQ Nq;obtain ⟨d0,d1,d2,d3⟩:=Mh.out.t.q;have F1:=Mh.out.f
 cases vb
 ·
  have BX:=zh (HI.out.trans (ah (by decide)));go_wp2_with fail;change bodyPost _ _ _ _ _ (K7 w1 (w.heap.size + 1) fM);have hby:=Mh.out.put fM;have ey:=zh (tD eW.out (Nat.le_succ _) fM);generalize K7 w1 (w.heap.size + 1) fM = V at *;obtain ⟨y0,y1,y2,y3⟩:=hby.t.q;exact au (v:=.tuple #[jS fM,.bool false]) (by simp [results,Tryz.results95,go_sem,y0,y1,y2,y3]) rfl ⟨by rw [BX.out]; rfl,ey.out⟩
 have BX:=zh (HI.out.trans (ag rfl));have Fg : s.v k = .slice (s.a k) (s.n k) (s.c k):=rfl;have ck:=fC.out.c k jI;have Ee:=zh (HF.out w1 (C5.out w1 eW.out));rw [HA.out rfl,← BX.out] at Ee;rw [Fg] at ck Ee;generalize s.a k = sa at *;generalize s.n k = sn at *;generalize s.c k = sc at *;clear Fg HF C5 HA;go_wp2_with fail;refine (HS.out _).mono ?_; rintro e w2 ⟨rfl,rfl⟩;go_wp2_with fail;refine Ee.out.mono ?_; rintro e w3 ⟨rfl,hb3⟩;have Nr:=zh (Mh.out.below hb3);have gp:=zh (zA eW.out hb3);clear hb3 d0 d1 d2 d3 F1;obtain ⟨d0,d1,d2,d3⟩:=Nr.out.t.q;have F1:=Nr.out.f;obtain ⟨y,hy⟩ : ∃ y,o.getD fM = y:=⟨_,rfl⟩
 have Hy:=zh hy;rw [hy];clear hy;go_wp2_with fail;change bodyPost _ _ _ _ _ (K7 w3 (w.heap.size + 1) y);have hby:=Nr.out.put y;have ey:=zh (tD gp.out (Nat.le_succ _) y);generalize K7 w3 (w.heap.size + 1) y = V at *;obtain ⟨y0,y1,y2,y3⟩:=hby.t.q;exact au (v:=.tuple #[jS y,.bool o.isSome]) (by simp [results,Tryz.results95,go_sem,y0,y1,y2,y3]) rfl ⟨by rw [Hy.out],ey.out⟩
end Go.Proofs.YtcgfilmmokmdjaaGreat
