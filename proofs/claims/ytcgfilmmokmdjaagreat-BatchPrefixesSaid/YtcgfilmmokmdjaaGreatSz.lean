/- A part of the walk. -/
import Derived.Test.YtcgfilmmokmdjaaGreatSy
set_option linter.all false
set_option maxRecDepth 100000
set_option maxHeartbeats 32000000
namespace Go.Proofs.YtcgfilmmokmdjaaGreat
open Go.RowKit
theorem zMV (g n cap a m b B : Nat) (d : List It) (w : World) (hown : w.ownsRow B 49 4 (.slice (some ⟨g,0,none⟩) n cap) n (zU d)) (hn : d.length = n) (hs : n ≤ 1000000) (h1 : a + 1 < m) (h2 : m + 1 < b) (h3 : b ≤ n) (na : iK d a m) (nb : iK d m b) (IH : ∀ (a' m' b' : Nat) (d' : List It) (w' : World),b' - a' < b - a → w'.ownsRow B 49 4 (.slice (some ⟨g,0,none⟩) n cap) n (zU d') → d'.length = n → a' < m' → m' < b' → b' ≤ n → iK d' a' m' → iK d' m' b' → Calls Tryz.prog 209 #[.slice (some ⟨g,0,none⟩) n cap,.int .i64 (a' : Int),.int .i64 (m' : Int),.int .i64 (b' : Int),.func (.func 174) #[] #[]] w' fun e w'' => e = .returned (.tuple #[]) ∧ Left w' g n cap a' b' B d' w'') :
  Calls Tryz.prog 209 #[.slice (some ⟨g,0,none⟩) n cap,.int .i64 (a : Int),.int .i64 (m : Int),.int .i64 (b : Int),.func (.func 174) #[] #[]] w fun e w' => e = .returned (.tuple #[]) ∧ Left w g n cap a b B d w':=by
 have HO:=zh hown;have hgr : w.grownBy w (some g):=⟨rfl,rfl,rfl,ai _,fun _ _ _ => rfl⟩
 have HG:=zh hgr;have HN:=zh hn;have HI:=zh IH;clear IH;have HA:=zh na;have HB:=zh nb;have hm1 : ((m : Int) - (a : Int) == 1) = false:=beq_eq_false_iff_ne.2 (by omega);have jH : ((b : Int) - (m : Int) == 1) = false:=beq_eq_false_iff_ne.2 (by omega);obtain ⟨md,rj,hL6,hL7,hLi⟩ : ∃ md,(a + b) / 2 = md ∧ md < b ∧ a < md ∧ ((a : Int) + (b : Int)) / 2 = (md : Int):=⟨(a + b) / 2,rfl,by omega,by omega,by omega⟩
 obtain ⟨lo,hlo,Md,hL5,hM1,hM2⟩ : ∃ lo,(if m > md then md + m - b else a) = lo ∧ a ≤ lo ∧ md + m ≤ lo + b ∧ (md < m → (md : Int) + (m : Int) - (b : Int) = (lo : Int)) ∧ (¬ md < m → a = lo):=by
  refine ⟨_,rfl,?_,?_,fun h => ?_,fun h => ?_⟩
  ·
   split <;> omega
  ·
   split <;> omega
  ·
   rw [ag h]; omega
  rw [ah h]
 obtain ⟨hi,hhi,hL2,hL3,hL4,hM3,hM4⟩ : ∃ hi,(if m > md then md else m) = hi ∧ lo ≤ hi ∧ hi ≤ m ∧ hi ≤ md ∧ (md < m → md = hi) ∧ (¬ md < m → m = hi):=by
  refine ⟨_,rfl,?_,?_,?_,fun h => ?_,fun h => ?_⟩
  ·
   rw [← hlo]; split <;> omega
  ·
   split <;> omega
  ·
   split <;> omega
  ·
   rw [ag h]
  rw [ah h]
 have II:=zh rj;have Hlo:=zh hlo;have Hhi:=zh hhi;have Hs:=zh hM1;have CO:=zh hM2;have TF:=zh hM3;have HM4:=zh hM4;clear rj hlo hhi hM1 hM2 hM3 hM4 hown hgr hn na nb
 go_enter Tryz.func209,Tryz.ntmps209
 go_upto_if 140 with fail
 go_cut [20,21] (fun s20 s21 wx => s20 = .int .i64 (lo : Int) ∧ s21 = .int .i64 (hi : Int) ∧ w = wx)
 case first => as_aux_lemma =>
  by_cases hgt : md < m
  ·
   have e1:=zh (Hs.out hgt);have e2:=zh (TF.out hgt);go_wp2_with fail;go_meet
   case rel => exact ⟨by rw [e1.out],by rw [e2.out],rfl⟩
  have e1:=zh (CO.out hgt);have e2:=zh (HM4.out hgt);go_wp2_with fail;go_meet
  case rel => exact ⟨by rw [e1.out],by rw [e2.out],rfl⟩
 obtain ⟨rfl,rfl,rfl⟩:=hcut;go_wp2_with fail
 go_loopw [20,21] (fun iv jv wr => ∃ i j : Nat,iv = .int .i64 (i : Int) ∧ jv = .int .i64 (j : Int) ∧ Bin (fun k => (d_ d k).key ≤ (d_ d (md + m - 1 - k)).key) (lo) (hi) i j ∧ wr.ownsRow B 49 4 (.slice (some ⟨g,0,none⟩) n cap) n (zU d) ∧ w.grownBy wr (some g)) (fun iv jv _ => (intOf jv - intOf iv).toNat)
 case atStart => exact ⟨lo,hi,by go_num,by go_num,Bin.start (by omega),HO.out,HG.out⟩
 obtain ⟨i,j,rfl,rfl,k_,ho,hg⟩:=hrel;have Ho:=zh ho;have Hg:=zh hg;have hq1:=k_.bl;have Nk:=k_.ij;have hq3:=k_.bh;have lK:=zh k_;clear k_ ho hg
 by_cases hlt : i < j
 ·
  obtain ⟨h,hh,Mc,IG⟩ : ∃ h : Nat,(i + j) / 2 = h ∧ i ≤ h ∧ h < j:=⟨(i + j) / 2,rfl,by omega,by omega⟩
  have Tt : ((i : Int) + (j : Int)) / 2 = (h : Int):=by omega
  have Hh:=zh hh;clear hh;obtain ⟨x,y,c,pU,hcl,HV,f0,f1,f2,f3,f4,f5,f6,f7⟩:=Wn Ho.out (p:=md + m - 1 - h) (q:=h) (by omega) (by omega);have HY:=zh (fun hp : (fun k => (d_ d k).key ≤ (d_ d (md + m - 1 - k)).key) h => lK.out.yes Mc IG hp);have Dh:=zh (fun hp : ¬ (fun k => (d_ d k).key ≤ (d_ d (md + m - 1 - k)).key) h => lK.out.no Mc IG hp);have i1 : (h : Int) < (n : Int):=by omega
  have q1 : (0 : Int) ≤ (md : Int) + (m : Int) - 1 - (h : Int):=by omega
  have q2 : ((md : Int) + (m : Int) - 1 - (h : Int)).toNat = md + m - 1 - h:=by omega
  have q3 : (md : Int) + (m : Int) - 1 - (h : Int) < (n : Int):=by omega
  have q0 : IntKind.i64.wrap ((md : Int) + (m : Int) - 1 - (h : Int)) = (md : Int) + (m : Int) - 1 - (h : Int):=aF _ (by omega)
  by_cases hk : c < 0
  ·
   as_aux_lemma =>
   have hkk : x.key < y.key:=by have:=hcl.out; rw [aD hk] at this; exact aX this.symm
   have HK:=zh hkk;clear hkk;go_wp2_with fail;refine zC (by kernel_rfl) (by kernel_rfl) ?_
   repeat (go_big_quiet_step ((exact zE (HV.out _))))
   refine aA ?_;intro _ hw';obtain ⟨u,hw'⟩:=hw';subst hw';have Hp:=zh (zI Ho.out u.h);have Gp:=zh (zq Hg.out (xb (grown_of u.h) (some g)));generalize u.w' = wp at *;go_wp2_with fail;exact ⟨⟨i,h,rfl,rfl,Dh.out (by simp only [pU.out.1,pU.out.2]; have:=HK.out; omega),Hp.out,Gp.out⟩,by simp [intOf]; omega⟩
  as_aux_lemma =>
  have hkk : ¬ x.key < y.key:=by have:=hcl.out; rw [aC hk] at this; exact cD this.symm
  have HK:=zh hkk;have Pr : decide (c < 0) = false:=aC hk;clear hk hkk;go_wp2_with fail;refine zC (by kernel_rfl) (by kernel_rfl) ?_
  repeat (go_big_quiet_step ((exact zE (HV.out _))))
  refine aA ?_;intro _ hw';obtain ⟨u,hw'⟩:=hw';subst hw';have Hp:=zh (zI Ho.out u.h);have Gp:=zh (zq Hg.out (xb (grown_of u.h) (some g)));generalize u.w' = wp at *;go_wp2_with fail;exact ⟨⟨h + 1,j,by go_num,rfl,HY.out (by simp only [pU.out.1,pU.out.2]; have:=HK.out; omega),Hp.out,Gp.out⟩,by simp [intOf]; omega⟩
 obtain rfl : i = j:=by omega
 have HO:=Ho;have HG:=Hg
 have HSr:=zh (show K1 d a m b i from ⟨by rw [II.out,Hlo.out]; exact lK.out.bl,by rw [II.out,Hhi.out]; exact lK.out.bh,
  fun h => by rw [II.out,Hlo.out] at h; rw [II.out]; have:=lK.out.l h; rwa [show md + m - 1 - (i - 1) = md + m - i by omega] at this,
  fun h => by rw [II.out,Hhi.out] at h; rw [II.out]; exact Int.not_le.1 (lK.out.r h)⟩)
 obtain ⟨hE1,hE2,hE3,hE4,hE5⟩:=HSr.out.ends;rw [II.out] at hE3 hE4 hE5;have hG:=zK1 HSr.out (by omega) (by omega) (by rw [HN.out]; exact h3) HA.out HB.out;rw [II.out] at hG;obtain ⟨e,he,hEe⟩ : ∃ e,md + m - i = e ∧ (md : Int) + (m : Int) - (i : Int) = (e : Int):=⟨md + m - i,rfl,by omega⟩
 rw [he] at hE4 hE5 hG;have hE6 : md ≤ e:=by omega
 have hX1 : i = m ↔ e = md:=by omega
 have hX2 : e = m ↔ i = md:=by omega
 have eY:=zh (show i = m → eN d i m e = d from fun h => by rw [h]; exact (kt (d:=d) (s:=m) (e:=e) (by omega)).2);have gj:=zh (show m = e → eN d i m e = d from fun h => by rw [h]; exact (kt (d:=d) (s:=i) (e:=e) (by omega)).1);have Wo:=zh (fun w h h1 h2 => zFw g n cap i m e B d (.func (.func 174) #[] #[]) w h HN.out hs h1 h2 (by omega));have EH:=zh (hG.1.len.trans HN.out);generalize eN d i m e = d1 at *;have K4:=zh hG;have He:=zh he;have fC:=zh hX1;have gm:=zh hX2;clear hG he hX1 hX2 hlt;obtain ⟨t,ht⟩ : ∃ t,decide (i < m ∧ m < e) = t:=⟨_,rfl⟩
 have Ht:=zh ht;clear ht;go_upto_region 39 with fail
 go_cut [185] (fun s wx => s = .bool t ∧ wr = wx)
 case first => as_aux_lemma =>
  by_cases c1 : i < m
  ·
   by_cases c2 : m < e
   ·
    go_wp2_with fail;go_meet
    case rel => exact ⟨by rw [← Ht.out,aD ⟨c1,c2⟩],rfl⟩
   go_wp2_with fail;go_meet
   case rel => exact ⟨by rw [← Ht.out,aC (fun h => c2 h.2)],rfl⟩
  go_wp2_with fail;go_meet
  case rel => exact ⟨by rw [← Ht.out,aC (fun h => c1 h.1)],rfl⟩
 obtain ⟨rfl,rfl⟩:=hcut;go_upto_if 185 with fail
 go_cut [18] (fun Wp wx => Wp = .int .i64 (md : Int) ∧ wx.ownsRow B 49 4 (.slice (some ⟨g,0,none⟩) n cap) n (zU d1) ∧ w.grownBy wx (some g))
 case first => as_aux_lemma =>
  cases t
  ·
   have hc:=cD Ht.out
   have HE : Hid (d1 = d):=zh (by
    by_cases c1 : i = m
    ·
     exact eY.out c1
    exact gj.out (by omega))
   clear hc;go_wp2_with fail;go_meet
   case rel => exact ⟨rfl,by rw [HE.out]; exact HO.out,HG.out⟩
  have hc:=zh (aX Ht.out);go_wp2_with fail;refine (Wo.out _ HO.out hc.out.1 hc.out.2).mono ?_; rintro _ w2 ⟨rfl,eC,fB⟩;have gu:=zh eC;have jt:=zh (zq HG.out fB);clear eC fB;go_wp2_with fail;go_meet
  case rel => exact ⟨rfl,gu.out,jt.out⟩
 obtain ⟨rfl,ho,hg⟩:=hcut;have HO:=zh ho;have HG:=zh hg;clear ho hg;obtain ⟨t,ht⟩ : ∃ t,decide (a < i ∧ i < md) = t:=⟨_,rfl⟩
 have Ht:=zh ht;clear ht;go_upto_region 41 with fail
 go_cut [199] (fun s wx => s = .bool t ∧ wc = wx)
 case first => as_aux_lemma =>
  by_cases c1 : a < i
  ·
   by_cases c2 : i < md
   ·
    go_wp2_with fail;go_meet
    case rel => exact ⟨by rw [← Ht.out,aD ⟨c1,c2⟩],rfl⟩
   go_wp2_with fail;go_meet
   case rel => exact ⟨by rw [← Ht.out,aC (fun h => c2 h.2)],rfl⟩
  go_wp2_with fail;go_meet
  case rel => exact ⟨by rw [← Ht.out,aC (fun h => c1 h.1)],rfl⟩
 obtain ⟨rfl,rfl⟩:=hcut;go_upto_if 199 with fail
 go_cut [18] (fun Wp wx => ∃ d2,Wp = .int .i64 (md : Int) ∧ wx.ownsRow B 49 4 (.slice (some ⟨g,0,none⟩) n cap) n (zU d2) ∧ Moved d1 d2 a md ∧ iK d2 a md ∧ w.grownBy wx (some g))
 case first => as_aux_lemma =>
  cases t
  ·
   have hc:=cD Ht.out
   have HE:=zh (show iK d1 a md from by
    by_cases c1 : i = a
    ·
     exact c1 ▸ K4.out.2.2.1
    exact (show i = md by omega) ▸ K4.out.2.1)
   clear hc;go_wp2_with fail;go_meet
   case rel => exact ⟨d1,rfl,HO.out,Moved.refl _ _ _,HE.out,HG.out⟩
  have hc:=zh (aX Ht.out);go_wp2_with fail;refine (HI.out a i md d1 _ (by omega) HO.out EH.out hc.out.1 hc.out.2 (by omega) K4.out.2.1 K4.out.2.2.1).mono ?_; rintro _ w2 ⟨rfl,d2,eC,jH,mq,fB⟩;have gu:=zh eC;have HM:=zh jH;have HNd:=zh mq;have jt:=zh (zq HG.out fB);clear eC fB jH mq;go_wp2_with fail;go_meet
  case rel => exact ⟨d2,rfl,gu.out,HM.out,HNd.out,jt.out⟩
 obtain ⟨d2,rfl,ho,jH,mq,hg⟩:=hcut;have HO:=zh ho;have HG:=zh hg;have HM:=zh jH;have HNd:=zh mq;have Jm:=zh (jH.len.trans EH.out);have Hl:=zh (show iK d2 md e from fun x y x1 xy y1 => by rw [jH.out (Or.inr x1),jH.out (Or.inr (by omega))]; exact K4.out.2.2.2.1 x y x1 xy y1);have Dh:=zh (show iK d2 e b from fun x y x1 xy y1 => by rw [jH.out (Or.inr (by omega)),jH.out (Or.inr (by omega))]; exact K4.out.2.2.2.2.1 x y x1 xy y1);have HJ:=zh (fun d3 m3 n3 => zLH (d:=d1) (d2:=d2) (d3:=d3) (a:=a) (c:=md) (b:=b) (by omega) (by omega) (by rw [EH.out]; exact h3) jH mq m3 n3 K4.out.2.2.2.2.2);clear ho jH mq hg;obtain ⟨t,ht⟩ : ∃ t,decide (md < e ∧ e < b) = t:=⟨_,rfl⟩
 have Ht:=zh ht;clear ht;go_upto_region 43 with fail
 go_cut [213] (fun s wx => s = .bool t ∧ wc = wx)
 case first => as_aux_lemma =>
  by_cases c1 : md < e
  ·
   by_cases c2 : e < b
   ·
    go_wp2_with fail;go_meet
    case rel => exact ⟨by rw [← Ht.out,aD ⟨c1,c2⟩],rfl⟩
   go_wp2_with fail;go_meet
   case rel => exact ⟨by rw [← Ht.out,aC (fun h => c2 h.2)],rfl⟩
  go_wp2_with fail;go_meet
  case rel => exact ⟨by rw [← Ht.out,aC (fun h => c1 h.1)],rfl⟩
 obtain ⟨rfl,rfl⟩:=hcut
 cases t
 ·
  have hc:=cD Ht.out
  have QH:=zh (HJ.out d2 (Moved.refl _ _ _) (by
   by_cases c1 : md = e
   ·
    exact c1 ▸ Dh.out
   exact (show e = b by omega) ▸ Hl.out))
  clear hc;go_wp2_with fail;go_end0;exact ⟨rfl,d2,HO.out,K4.out.1.trans QH.out.1,QH.out.2,HG.out⟩
 have hc:=zh (aX Ht.out);go_wp2_with fail;refine (HI.out md e b d2 _ (by omega) HO.out Jm.out hc.out.1 hc.out.2 h3 Hl.out Dh.out).mono ?_; rintro _ w2 ⟨rfl,d3,eC,jH,mq,fB⟩;have gu:=zh eC;have QH:=zh (HJ.out d3 jH mq);have jt:=zh (zq HG.out fB);clear eC fB jH mq;go_wp2_with fail;go_end0;exact ⟨rfl,d3,gu.out,K4.out.1.trans QH.out.1,QH.out.2,jt.out⟩
theorem Wq (g n cap B : Nat) (hs : n ≤ 1000000) : ∀ (N a m b : Nat) (d : List It) (w : World),b - a ≤ N → w.ownsRow B 49 4 (.slice (some ⟨g,0,none⟩) n cap) n (zU d) → d.length = n → a < m → m < b → b ≤ n → iK d a m → iK d m b →
  Calls Tryz.prog 209 #[.slice (some ⟨g,0,none⟩) n cap,.int .i64 (a : Int),.int .i64 (m : Int),.int .i64 (b : Int),.func (.func 174) #[] #[]] w fun e w' => e = .returned (.tuple #[]) ∧ Left w g n cap a b B d w'
 | 0,a,m,b,_,_,h,_,_,_,_,_,_,_ => by omega
 | N + 1,a,m,b,d,w,h,hown,hn,h1,h2,h3,na,nb => by
  rcases bD (a + 1) m with c1 | c1
  ·
   rcases bD (m + 1) b with c2 | c2
   ·
    exact zMV g n cap a m b B d w hown hn hs c1 c2 h3 na nb fun a' m' b' d' w' q1 q2 q3 q4 q5 q6 q7 q8 => Wq g n cap B hs N a' m' b' d' w' (by omega) q2 q3 q4 q5 q6 q7 q8
   exact zMp g n cap a m b B d w hown hn hs c1 (by omega) h3 na
  obtain rfl : m = a + 1:=by omega
  exact zMh g n cap a b B d w hown hn hs h2 h3 nb
end Go.Proofs.YtcgfilmmokmdjaaGreat
