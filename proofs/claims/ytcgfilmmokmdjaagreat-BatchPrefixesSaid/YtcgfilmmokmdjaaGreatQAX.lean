/- A part of the walk. -/
import Derived.Test.YtcgfilmmokmdjaaGreatQAW
import Derived.Test.YtcgfilmmokmdjaaGreatBd
import Derived.Maps.OwnOps
import Derived.Maps.Views
import Derived.Test.YtcgfilmmokmdjaaGreatQAV
import Derived.Test.YtcgfilmmokmdjaaGreatQAP
set_option linter.all false
set_option maxRecDepth 100000
set_option maxHeartbeats 32000000
namespace Go.Proofs.YtcgfilmmokmdjaaGreat
/-! ### One step of the lD -/
theorem zBZ {P : fG} {q : Rq} (h : (zT P q).1 = true) : ∃ e,(zT P q).2.res = P.res ++ [e] ∧
    ((e ≠ 0 ∧ (zT P q).2.dY = P.dY ∧ (zT P q).2.needs = P.needs) ∨
     (e = 0 ∧ q.kind = 1 ∧ (zT P q).2.dY = P.dY ∧ (zT P q).2.needs = P.needs ++ [uJ q]) ∨
     (e = 0 ∧ q.kind = 2 ∧ (zT P q).2.dY = (yN P q.key).dY ∧ (zT P q).2.needs = P.needs ++ (if wT (yN P q.key).t q.key = true then [qA q] else []))):=by
  have iz : ¬ P.res.length = 16:=fun e => by rw [tP e] at h; cases h
  by_cases h1 : q.kind = 1
  · by_cases h9 : zn P.t q = 9 ∧ wh P.t = true
    · rw [qi iz h1 h9.1 h9.2] at h; cases h
    by_cases hc : zn P.t q = 0
    · by_cases hb : 0 < P.bytes ∧ 16384 < P.bytes + (eP q.data.length : Int)
      · rw [tE iz h1 hc hb] at h; cases h
      rw [vn iz h1 hc hb];exact ⟨0,rfl,.inr (.inl ⟨rfl,h1,rfl,rfl⟩)⟩
    rw [wy iz h1 h9 hc];exact ⟨_,rfl,.inl ⟨hc,rfl,rfl⟩⟩
  by_cases h2 : q.kind = 2
  · rcases uW (P:=P) (q:=q) with h3 | h3
    · by_cases hb : wT P.t q.key = true ∧ 0 < P.bytes ∧ 16384 < P.bytes + 24
      · rw [tR iz h2 h3 hb] at h; cases h
      rw [ww iz h2 h3 hb];refine ⟨0,by show (yl P q).res ++ [0] = _; rw [vm],.inr (.inr ⟨rfl,h2,?_,?_⟩)⟩
      · show (yl P q).dY = _
        unfold yl
        split <;> rfl
      show (yl P q).needs = _
      have hn:=(xC P q.key).2.1;unfold yl
      split
      · show (yN P q.key).needs ++ [qA q] = _; rw [hn]
      rw [hn,bB]
    rw [vC iz h2 h3];exact ⟨6,rfl,.inl ⟨by decide,rfl,rfl⟩⟩
  rw [vL iz h1 h2];exact ⟨1,rfl,.inl ⟨by decide,rfl,rfl⟩⟩
theorem ZB : ∀ (keys : List Int) {g : Gn},gX g → ∀ k,zR (yR g keys).m k = if k ∈ keys then none else zR g.m k
  | [],g,_,k => by rw [ah (by simp)]; rfl
  | x :: r,g,h,k => by
    have ih:=ZB r (X6 h x) k;have e : yR g (x :: r) = yR (kA g x) r:=rfl;rw [e,ih,zHU h]
    by_cases e1 : k ∈ r
    · rw [ag e1,ag (by simp [e1])]
    by_cases e2 : x = k
    · rw [ah e1,ag e2,ag (by simp [e2])]
    rw [ah e1,ah e2,ah (by
      intro h
      rcases List.mem_cons.1 h with h | h
      · exact e2 h.symm
      exact e1 h)]
theorem UX {S : eL} (hS : eA S) {key : Int} : ∀ (l : List Int) {P : fG},mL S P → (∀ x ∈ l,∃ r,r + 1 < S.dW.length ∧ x = (eB S.dW r).num) → ∀ n,
    (∀ k ∈ yS P.dY n,k ∈ yS (l.foldl (yp key) P).dY n) ∧ (n ∈ l → key ∈ yS (l.foldl (yp key) P).dY n) ∧ ∀ k ∈ yS (l.foldl (yp key) P).dY n,k ∈ yS P.dY n ∨ k = key
  | [],P,_,_,n => ⟨fun _ h => h,(fun h => by cases h),fun _ h => .inl h⟩
  | x :: l,P,h,hl,n => by
    obtain ⟨r,hr,e⟩:=hl x (by simp);subst e;obtain ⟨h1,h2,h3⟩:=UX hS l (h.kill hS hr key) (fun y hy => hl y (by simp [hy])) n;have e : yS (yp key P (eB S.dW r).num).dY n = if n = (eB S.dW r).num then yS P.dY n ++ [key] else yS P.dY n:=zE7 h.DZ _ key n
    rw [e] at h1 h3
    show (∀ k ∈ yS P.dY n,k ∈ yS (l.foldl (yp key) (yp key P (eB S.dW r).num)).dY n) ∧ (_ → key ∈ yS (l.foldl (yp key) (yp key P (eB S.dW r).num)).dY n) ∧ ∀ k ∈ yS (l.foldl (yp key) (yp key P (eB S.dW r).num)).dY n,_
    by_cases en : n = (eB S.dW r).num
    · rw [ag en] at h1 h3
      refine ⟨fun k hk => h1 k (List.mem_append_left _ hk),fun _ => h1 key (by simp),fun k hk => ?_⟩;rcases h3 k hk with h4 | h4
      · rcases List.mem_append.1 h4 with h4 | h4
        · exact .inl h4
        exact .inr (List.mem_singleton.1 h4)
      exact .inr h4
    rw [ah en] at h1 h3;refine ⟨h1,fun hm => ?_,h3⟩;rcases List.mem_cons.1 hm with hm | hm
    · exact absurd hm en
    exact h2 hm
theorem zHI {l : List Gn} {key : Int} : ∀ {n r : Nat},r < n → zR (eB l r).m key ≠ none → (eB l r).num ∈ qx l key n
  | 0,r,h,_ => by omega
  | n + 1,r,h,hg => by
    show _ ∈ qx l key n ++ (match zR (eB l n).m key with | some _ => [(eB l n).num] | none => [])
    by_cases e : r = n
    · subst e
      cases hx : zR (eB l r).m key with
      | none => exact absurd hx hg
      | some x => simp
    exact List.mem_append_left _ (zHI (show r < n by omega) hg)
/-! ### A run of the lD -/
structure Run (S : eL) (K : List Rq) (n : Nat) : Prop where
  v : eA S
  st : ∀ j,j < n → (zT (ew S K j) (yC K j)).1 = true
section
variable {S : eL} {K : List Rq} {n : Nat}
theorem wS (hS : eA S) : ∀ i,mL S (ew S K i)
  | 0 => mL.start hS
  | i + 1 => (wS hS i).plan hS _
theorem Run.OG (h : Run S K n) : ∀ i,i ≤ n → (ew S K i).res.length = i
  | 0,_ => rfl
  | i + 1,hi => by
    obtain ⟨e,h1,_⟩:=zBZ (h.st i (by omega));have h1 : (ew S K (i + 1)).res = (ew S K i).res ++ [e]:=h1;rw [h1,ax,h.OG i (by omega)]; rfl
theorem Run.step (h : Run S K n) {i : Nat} (hi : i < n) :
    (xT (ew S K n).res i ≠ 0 ∧ (ew S K (i + 1)).dY = (ew S K i).dY ∧ (ew S K (i + 1)).needs = (ew S K i).needs) ∨
    (xT (ew S K n).res i = 0 ∧ (yC K i).kind = 1 ∧ (ew S K (i + 1)).dY = (ew S K i).dY ∧ (ew S K (i + 1)).needs = (ew S K i).needs ++ [uJ (yC K i)]) ∨
    (xT (ew S K n).res i = 0 ∧ (yC K i).kind = 2 ∧ (ew S K (i + 1)).dY = (yN (ew S K i) (yC K i).key).dY ∧
      (ew S K (i + 1)).needs = (ew S K i).needs ++ (if wT (yN (ew S K i) (yC K i).key).t (yC K i).key = true then [qA (yC K i)] else [])):=by
  obtain ⟨e,h1,h2⟩:=zBZ (h.st i hi);have h1 : (ew S K (i + 1)).res = (ew S K i).res ++ [e]:=h1;have h3:=zK3 h.v h.st (i + 1) hi;have hl:=h.OG i (by omega);have he : xT (ew S K n).res i = e:=by
    rw [h1] at h3;have h4 : ((ew S K i).res ++ [e])[i]? = some e:=by rw [dw (by omega),hl]; simp
    rw [h3,List.getElem?_take_of_lt (by omega)] at h4;unfold xT;rw [aw,h4]; rfl
  rw [he];exact h2
theorem Run.pre (h : Run S K n) : ∀ (d i : Nat),i + d ≤ n → (ew S K i).needs <+: (ew S K (i + d)).needs
  | 0,_,_ => List.prefix_rfl
  | d + 1,i,hd => by
    have h1:=h.pre d i (by omega);refine h1.trans ?_
    show (ew S K (i + d)).needs <+: (ew S K (i + d + 1)).needs
    rcases h.step (show i + d < n by omega) with ⟨_,_,e⟩ | ⟨_,_,_,e⟩ | ⟨_,_,_,e⟩
    · rw [e]; exact List.prefix_rfl
    · rw [e]; exact List.prefix_append _ _
    rw [e]; exact List.prefix_append _ _
theorem Run.le (h : Run S K n) {i j : Nat} (hij : i ≤ j) (hj : j ≤ n) : (ew S K i).needs <+: (ew S K j).needs:=by
  have:=h.pre (j - i) i (by omega)
  rwa [show i + (j - i) = j by omega] at this
theorem Run.tk (h : Run S K n) {i : Nat} (hi : i ≤ n) : (ew S K i).needs = (ew S K n).needs.take (ew S K i).needs.length:=by
  obtain ⟨t,e⟩:=h.le hi (ai n);rw [← e,List.take_left]
theorem Run.jh (h : Run S K n) {i : Nat} (hi : i < n) (m : Int) : ∀ k ∈ yS (ew S K i).dY m,k ∈ yS (ew S K (i + 1)).dY m:=by
  have hA:=wS (K:=K) h.v i;intro k hk;rcases h.step hi with ⟨_,e,_⟩ | ⟨_,_,e,_⟩ | ⟨_,_,e,_⟩
  · rw [e]; exact hk
  · rw [e]; exact hk
  rw [e];refine (UX h.v (key:=((yC K i).key : Int)) _ hA (fun x hx => ?_) m).1 k hk;obtain ⟨r,h1,e⟩:=ur hA.kp.v hx;have hl:=hA.kp.len;exact ⟨r,by omega,by rw [e,hA.kp.num r (by omega)]⟩
theorem Run.ks (h : Run S K n) (m : Int) : ∀ (d i : Nat),i + d ≤ n → ∀ k ∈ yS (ew S K i).dY m,k ∈ yS (ew S K (i + d)).dY m
  | 0,_,_,_,hk => hk
  | d + 1,i,hd,k,hk => h.jh (show i + d < n by omega) m k (h.ks m d i (by omega) k hk)
theorem Run.kill (h : Run S K n) (m : Int) : ∀ i,i ≤ n → ∀ k ∈ yS (ew S K i).dY m,∃ j,j < i ∧ ((yC K j).key : Int) = k ∧ (yC K j).kind = 2 ∧ xT (ew S K n).res j = 0
  | 0,_,k,hk => by cases hk
  | i + 1,hi,k,hk => by
    have hA:=wS (K:=K) h.v i;have ih:=h.kill m i (by omega) k;have old : k ∈ yS (ew S K i).dY m → ∃ j,j < i + 1 ∧ ((yC K j).key : Int) = k ∧ (yC K j).kind = 2 ∧ xT (ew S K n).res j = 0:=fun hk => by
      obtain ⟨j,h1,h2⟩:=ih hk;exact ⟨j,by omega,h2⟩
    rcases h.step (show i < n by omega) with ⟨_,e,_⟩ | ⟨_,_,e,_⟩ | ⟨e0,e2,e,_⟩
    · rw [e] at hk; exact old hk
    · rw [e] at hk; exact old hk
    rw [e] at hk
    rcases (UX h.v (key:=((yC K i).key : Int)) _ hA (fun x hx => by
      obtain ⟨r,h1,e⟩:=ur hA.kp.v hx
      have hl:=hA.kp.len
      exact ⟨r,by omega,by rw [e,hA.kp.num r (by omega)]⟩) m).2.2 k hk with h5 | h5
    · exact old h5
    exact ⟨i,by omega,h5.symm,e2,e0⟩
theorem Run.gone (h : Run S K n) {i : Nat} (hi : i < n) (h2 : (yC K i).kind = 2) (h0 : xT (ew S K n).res i = 0) {r : Nat} (hr : r + 1 < S.dW.length) (hg : zR (eB S.dW r).m (yC K i).key ≠ none) :
    ((yC K i).key : Int) ∈ yS (ew S K n).dY (eB S.dW r).num:=by
  have hA:=wS (K:=K) h.v i;have hl:=hA.kp.len;have hv:=hA.kp.v;have Bj:=h.ks (eB S.dW r).num (n - (i + 1)) (i + 1) (by omega) ((yC K i).key : Int);rw [show i + 1 + (n - (i + 1)) = n by omega] at Bj;refine Bj ?_
  by_cases hm : ((yC K i).key : Int) ∈ yS (ew S K i).dY (eB S.dW r).num
  · exact h.jh hi _ _ hm
  rcases h.step hi with ⟨e,_,_⟩ | ⟨_,e,_,_⟩ | ⟨_,_,e,_⟩
  · exact absurd h0 e
  · omega
  rw [e]
  refine (UX h.v (key:=((yC K i).key : Int)) _ hA (fun x hx => by
    obtain ⟨r,h1,e⟩:=ur hv hx
    exact ⟨r,by omega,by rw [e,hA.kp.num r (by omega)]⟩) _).2.1 ?_
  rw [X9 hv,← hA.kp.num r (by omega)];refine zHI (by omega) ?_;rw [hA.low r hr,ZB _ (h.v.vg (by omega)),ah hm];exact hg
theorem SQ {l m : List Nd} (h : l <+: m) {a : Nat} (ha : a < l.length) : q_ m a = q_ l a:=by
  obtain ⟨t,rfl⟩:=h;unfold q_;rw [aw,aw,dP ha]
theorem SR (l : List Nd) (x : Nd) : q_ (l ++ [x]) l.length = x:=by
  unfold q_;rw [aw,dw (ai _)]; simp
theorem Run.from (h : Run S K n) : ∀ i,i ≤ n → ∀ a,a < (ew S K i).needs.length → ∃ j,j < i ∧ (ew S K j).needs.length = a ∧ (ew S K (j + 1)).needs.length = a + 1 ∧ xT (ew S K n).res j = 0 ∧
    (((yC K j).kind = 1 ∧ q_ (ew S K n).needs a = uJ (yC K j)) ∨ ((yC K j).kind = 2 ∧ q_ (ew S K n).needs a = qA (yC K j)))
  | 0,_,a,ha => by cases ha
  | i + 1,hi,a,ha => by
    by_cases hlt : a < (ew S K i).needs.length
    · obtain ⟨j,h1,h2⟩:=h.from i (by omega) a hlt
      exact ⟨j,by omega,h2⟩
    have hp:=h.le (show i + 1 ≤ n from hi) (ai n);rcases h.step (show i < n by omega) with ⟨_,_,e⟩ | ⟨e0,e1,_,e⟩ | ⟨e0,e1,_,e⟩
    · rw [e] at ha; omega
    · have hl : (ew S K (i + 1)).needs.length = (ew S K i).needs.length + 1:=by rw [e,ax]; rfl
      obtain rfl : a = (ew S K i).needs.length:=by omega
      refine ⟨i,by omega,rfl,hl,e0,.inl ⟨e1,?_⟩⟩;rw [SQ hp ha,e,SR]
    by_cases ht : wT (yN (ew S K i) (yC K i).key).t (yC K i).key = true
    · rw [ag ht] at e
      have hl : (ew S K (i + 1)).needs.length = (ew S K i).needs.length + 1:=by rw [e,ax]; rfl
      obtain rfl : a = (ew S K i).needs.length:=by omega
      refine ⟨i,by omega,rfl,hl,e0,.inr ⟨e1,?_⟩⟩;rw [SQ hp ha,e,SR]
    rw [ah ht,bB] at e;rw [e] at ha; omega
theorem Run.OH (h : Run S K n) {i : Nat} (hi : i < n) (ha : (ew S K i).needs.length < (ew S K n).needs.length) :
    ((xT (ew S K n).res i = 0 ∧ (q_ (ew S K n).needs (ew S K i).needs.length).key = (yC K i).key ∧ (q_ (ew S K n).needs (ew S K i).needs.length).del = decide ((yC K i).kind = 2)) →
      (ew S K (i + 1)).needs.length = (ew S K i).needs.length + 1) ∧
    (¬ (xT (ew S K n).res i = 0 ∧ (q_ (ew S K n).needs (ew S K i).needs.length).key = (yC K i).key ∧ (q_ (ew S K n).needs (ew S K i).needs.length).del = decide ((yC K i).kind = 2)) →
      (ew S K (i + 1)).needs.length = (ew S K i).needs.length):=by
  have hp:=h.le (show i + 1 ≤ n from hi) (ai n);rcases h.step hi with ⟨e0,_,e⟩ | ⟨e0,e1,_,e⟩ | ⟨e0,e1,_,e⟩
  · exact ⟨fun hc => absurd hc.1 e0,fun _ => by rw [e]⟩
  · have hl : (ew S K (i + 1)).needs.length = (ew S K i).needs.length + 1:=by rw [e,ax]; rfl
    have hn : q_ (ew S K n).needs (ew S K i).needs.length = uJ (yC K i):=by rw [SQ hp (by omega),e,SR]
    rw [hn];exact ⟨fun _ => hl,fun hc => absurd ⟨e0,rfl,by show false = _; simp [e1]⟩ hc⟩
  by_cases ht : wT (yN (ew S K i) (yC K i).key).t (yC K i).key = true
  · rw [ag ht] at e
    have hl : (ew S K (i + 1)).needs.length = (ew S K i).needs.length + 1:=by rw [e,ax]; rfl
    have hn : q_ (ew S K n).needs (ew S K i).needs.length = qA (yC K i):=by rw [SQ hp (by omega),e,SR]
    rw [hn];exact ⟨fun _ => hl,fun hc => absurd ⟨e0,rfl,by show true = _; simp [e1]⟩ hc⟩
  rw [ah ht,bB] at e;refine ⟨fun hc => ?_,fun _ => by rw [e]⟩
  exfalso
  obtain ⟨j,hj,j1,j2,j3,j4⟩:=h.from n (ai n) _ ha;have hij : i < j:=by
    rcases bD i j with h1 | h1
    · exact h1
    have h2:=(h.le (show j + 1 ≤ i + 1 by omega) (show i + 1 ≤ n by omega)).length_le;rw [e] at h2; omega
  have hA:=wS (K:=K) h.v i;have hB:=wS (K:=K) h.v j;have hnd : (ew S K j).needs = (ew S K i).needs:=by
    obtain ⟨t,et⟩:=h.le (show i ≤ j by omega) (show j ≤ n by omega);have : t = []:=by
      have:=aQ List.length et;rw [ax] at this;exact List.length_eq_zero_iff.1 (by omega)
    rw [← et,this,bB]
  rcases j4 with ⟨_,hn⟩ | ⟨k2,hn⟩
  · rw [hn] at hc
    have:=hc.2.2;rw [e1] at this
    cases this
  rw [hn] at hc;have hkey : (yC K j).key = (yC K i).key:=hc.2.1;rcases h.step hj with ⟨q0,_,_⟩ | ⟨_,q1,_,_⟩ | ⟨_,_,_,q⟩
  · exact absurd j3 q0
  · omega
  have ht2 : wT (yN (ew S K j) (yC K j).key).t (yC K j).key = true:=by
    by_cases h3 : wT (yN (ew S K j) (yC K j).key).t (yC K j).key = true
    · exact h3
    rw [ah h3,bB] at q;rw [q] at j2; omega
  rw [kO hB.kp.v,uD hB.kp.v,hB.top,hnd,← hA.top,← uD hA.kp.v,hkey,← kO hA.kp.v] at ht2;exact ht ht2
/-! ### The lj by the places of their records -/
noncomputable def vT (S : eL) (K : List Rq) : Nat → Int → Option Int
  | 0,_ => none
  | i + 1,o => if (ew S K (i + 1)).needs.length = (ew S K i).needs.length then vT S K i o else if o = (zK S).size + (fU (ew S K i).needs : Int) then some (i : Int) else vT S K i o
theorem zLF (l m : List Nd) : fU (l ++ m) = fU l + fU m:=by unfold fU; rw [bE,List.sum_append]
theorem zME {l m : List Nd} (h : l <+: m) (hl : l.length < m.length) (hok : ∀ x ∈ m,x.ok) : fU l < fU m:=by
  obtain ⟨t,rfl⟩:=h;rw [zLF];rw [ax] at hl;have:=zGe (l:=t) fun x hx => hok x (List.mem_append_right _ hx)
  omega
theorem Run.look (h : Run S K n) {j : Nat} (h1 : (ew S K (j + 1)).needs.length = (ew S K j).needs.length + 1) : ∀ d,j + 1 + d ≤ n → vT S K (j + 1 + d) ((zK S).size + (fU (ew S K j).needs : Int)) = some (j : Int)
  | 0,_ => by
    show (if _ then _ else if _ then _ else _) = _
    rw [ah (by omega),ag rfl]
  | d + 1,hd => by
    have ih:=h.look h1 d (by omega);have hp:=h.le (show j + 1 ≤ j + 1 + d by omega) (show j + 1 + d ≤ n by omega);have hq:=h.le (show j ≤ j + 1 + d by omega) (show j + 1 + d ≤ n by omega);have hlt:=zME hq (by have:=hp.length_le; omega) (wS (K:=K) h.v _).ok
    show (if (ew S K (j + 1 + d + 1)).needs.length = (ew S K (j + 1 + d)).needs.length then _ else if _ = (zK S).size + (fU (ew S K (j + 1 + d)).needs : Int) then _ else _) = _
    split
    · exact ih
    rw [ah (by omega)]; exact ih
/-! ### FI cut off -/
def ye : List Kl → Nat → List Kl
  | [],_ => []
  | k :: r,c => (k.1,k.2.take c) :: ye r (c - k.2.length)
def xw (l : List Kl) : Nat:=(l.map fun k => k.2.length).sum
theorem ZC (k : Kl) (l : List Kl) : xw (k :: l) = k.2.length + xw l:=by simp [xw]
theorem zC8 : ∀ {l : List Kl} {c : Nat},xw l ≤ c → ye l c = l
  | [],_,_ => rfl
  | k :: r,c,h => by
    rw [ZC] at h
    show (k.1,k.2.take c) :: ye r (c - k.2.length) = _
    rw [zC8 (show xw r ≤ c - k.2.length by omega),aH (by omega)]
theorem UY : ∀ {l : List Kl} {c : Nat} {x : Kl},x ∈ ye l c → ∃ y ∈ l,y.1 = x.1
  | [],_,_,h => by cases h
  | k :: r,c,x,h => by
    rcases List.mem_cons.1 (show x ∈ (k.1,k.2.take c) :: ye r (c - k.2.length) from h) with rfl | h
    · exact ⟨k,by simp,rfl⟩
    obtain ⟨y,h1,h2⟩:=UY h;exact ⟨y,by simp [h1],h2⟩
theorem zFT : ∀ {l : List Kl} (c : Nat),(l.Pairwise fun a b => a.1 < b.1) → (ye l c).Pairwise fun a b => a.1 < b.1
  | [],_,_ => List.Pairwise.nil
  | k :: r,c,h => by
    rw [cR] at h;refine List.pairwise_cons.2 ⟨fun x hx => ?_,zFT _ h.2⟩;obtain ⟨y,h1,h2⟩:=UY hx;have:=h.1 y h1
    show k.1 < x.1
    omega
theorem zEc : ∀ {l : List Kl} {c : Nat} {m k : Int},k ∈ yS (ye l c) m → k ∈ yS l m
  | [],_,_,_,h => h
  | x :: r,c,m,k,h => by
    have h : k ∈ (if x.1 = m then x.2.take c else []) ++ yS (ye r (c - x.2.length)) m:=h
    show k ∈ (if x.1 = m then x.2 else []) ++ yS r m
    rcases List.mem_append.1 h with h | h
    · refine List.mem_append_left _ ?_
      split at h
      · rename_i e; rw [ag e]; exact aY h
      cases h
    exact List.mem_append_right _ (zEc h)
theorem zDA : ∀ (l : List Kl) (m : Int),yS (ye l 0) m = []
  | [],_ => rfl
  | x :: r,m => by
    show (if x.1 = m then x.2.take 0 else []) ++ yS (ye r (0 - x.2.length)) m = []
    rw [Nat.zero_sub,zDA r m]
    split <;> rfl
theorem zEF : ∀ {l : List Kl} {c : Nat} {m m' k : Int},(l.Pairwise fun a b => a.1 < b.1) → k ∈ yS (ye l c) m → m' < m → yS (ye l c) m' = yS l m'
  | [],_,_,_,_,_,_,_ => rfl
  | x :: r,c,m,m',k,ha,h,hm => by
    rw [cR] at ha;have h : k ∈ (if x.1 = m then x.2.take c else []) ++ yS (ye r (c - x.2.length)) m:=h
    show (if x.1 = m' then x.2.take c else []) ++ yS (ye r (c - x.2.length)) m' = (if x.1 = m' then x.2 else []) ++ yS r m'
    rcases List.mem_append.1 h with h | h
    · split at h
      · rename_i e
        have h1 : ∀ y ∈ r,y.1 ≠ m':=fun y hy => by have:=ha.1 y hy; omega
        have h2 : ∀ y ∈ ye r (c - x.2.length),y.1 ≠ m':=fun y hy => by
          obtain ⟨z,h3,h4⟩:=UY hy;rw [← h4]; exact h1 z h3
        rw [ah (by omega),ah (by omega),vB h1,vB h2]
      cases h
    have hc : x.2.length < c:=by
      rcases bD x.2.length c with h1 | h1
      · exact h1
      rw [show c - x.2.length = 0 by omega,zDA] at h; cases h
    rw [zEF ha.2 h hm,aH (by omega)]
/-! ### What a key has -/
abbrev Vl:=Bool × Int × Int × Int
noncomputable def qw (s : eL) (key top size : Int) (f : Int → Option Int) : Vl:=
  if (zl s key).isEmpty = true then (false,0,0,0)
  else if ((zl s key).headD wY).gen = top ∧ size ≤ ((zl s key).headD wY).it.off then (true,1 + (f ((zl s key).headD wY).it.off).getD 0,0,0)
  else (true,0,((zl s key).headD wY).gen,((zl s key).headD wY).it.off)
theorem uu {s : eL} {key top size : Int} {f : Int → Option Int} {p : jJ} (h1 : (zl s key).isEmpty = false) (h2 : (zl s key).headD wY = p) : qw s key top size f = if p.gen = top ∧ size ≤ p.it.off then (true,1 + (f p.it.off).getD 0,0,0) else (true,0,p.gen,p.it.off):=by
  unfold qw;rw [h1,h2,ah (by decide)]
theorem zJD {g : Gn} (h : gX g) {k : Int} {x : It} (hx : zR g.m k = some x) : x.off < g.size:=by
  have hm:=(zO _).1 h.m;have hk : x.key = k:=by
    rw [xR hm] at hx;exact (xe hx).2
  have hi : x ∈ zG g.m:=(xD hm).2 (by rw [hk]; exact hx);have h1 : kC (zG g.m) g.size:=aX h.ends;have h2:=h1.2 x hi;have h3:=tH (Zb hm hi);omega
def UZ (g : Gn) (l : List Nd) (key : Int) (n : Nat) (o : Option It) : Prop:=
  if wu l key n = -1 then o = zR g.m key
  else if (q_ l (wu l key n).toNat).del = true then o = none
  else o = some ⟨key,((q_ l (wu l key n).toNat).ck : Int),g.size + (fU (l.take (wu l key n).toNat) : Int),((q_ l (wu l key n).toNat).data.length : Int)⟩
theorem zAw {g : Gn} (hg : gX g) {l : List Nd} (hok : ∀ x ∈ l,x.ok) (hz : g.size + (fU l : Int) ≤ 1048576) (key : Int) : ∀ n,n ≤ l.length → UZ g l key n (zR (zX g (l.take n)).m key)
  | 0,_ => by unfold UZ wu; rw [ag rfl]; rfl
  | n + 1,h => by
    have ih:=zAw hg hok hz key n (by omega);have hl : n < l.length:=by omega
    have hsz : g.size + (fU (l.take (n + 1)) : Int) ≤ 1048576:=by have:=X_ l (n + 1); omega
    rw [zE6 hl,uo] at hsz;have hv:=kU (l.take n) hg (fun x hx => hok x (aY hx)) (by omega);rw [zE6 hl,ub,zA5 hv (hok _ (zLT hl)) (by rw [yy]; omega)];unfold UZ wu
    by_cases e : ((q_ l n).key : Int) = key
    · rw [ag e,ag e,ah (by omega)]
      by_cases hd : (q_ l n).del = true
      · rw [ag hd,ag (by rw [cS]; exact hd)]
      rw [ah hd,ah (by rw [cS]; exact hd),cS,← e,← yy]; rfl
    rw [ah e,ah e];exact ih
theorem zC3 (l : List Nd) (key : Int) : ∀ n,wu l key n ≠ -1 → ((q_ l (wu l key n).toNat).key : Int) = key
  | 0,h => absurd rfl h
  | n + 1,h => by
    unfold wu at h ⊢
    split
    · rename_i e; rw [cS]; exact e
    rename_i e; rw [ah e] at h; exact zC3 l key n h
/-! ### The law -/
structure Part (S : eL) (ks : List Kl) (N : List Nd) (c m : Nat) (T : eL) : Prop where
  v : eA T
  len : T.dW.length = S.dW.length
  low : ∀ r,r + 1 < S.dW.length → eB T.dW r = yR (eB S.dW r) (yS (ye ks c) (eB S.dW r).num)
  top : zK T = zX (zK S) (N.take m)
  Qx : m ≤ N.length
  cge : 0 < m → xw ks ≤ c
theorem ZD {T : eL} (h : eA T) {key : Int} {x : It} (hx : zR (zK T).m key = some x) : (zl T key).isEmpty = false ∧ (zl T key).headD wY = ⟨(zK T).num,(zK T).mode,(zK T).rev,x,T.dW.length - 1⟩:=by
  rw [uT h,vp h,hx];exact ⟨rfl,rfl⟩
theorem Run.Iq (h : Run S K n) {c m : Nat} {T : eL} (hT : Part S (ew S K n).dY (ew S K n).needs c m T) (key : Int) :
    qw T key (zK S).num (zK S).size (vT S K n) = qw S key (zK S).num (zK S).size (vT S K n) ∨
    ∃ j,j < n ∧ ((yC K j).key : Int) = key ∧ xT (ew S K n).res j = 0 ∧ ((yC K j).kind = 1 ∨ (yC K j).kind = 2) ∧
      qw T key (zK S).num (zK S).size (vT S K n) = (if (yC K j).kind = 1 then (true,1 + (j : Int),0,0) else (false,0,0,0)):=by
  have hS:=h.v;have hA:=wS (K:=K) hS n;have hlen:=hS.len;obtain ⟨sv,sm,sz⟩:=hS.Cl;obtain ⟨tv,tm,tz⟩:=hT.v.Cl;have jk : (zK T).num = (zK S).num:=by rw [hT.top]; exact (vt _ _).1
  have hsz : (zK S).size + (fU (ew S K n).needs : Int) ≤ 1048576:=by
    have e:=hA.kp.v.Cl.2.2;rw [hA.top,yy,hA.kp.lim] at e;have:=hS.lim;omega
  have hg:=zAw sv hA.ok hsz key m hT.Qx;rw [← hT.top] at hg
  -- the older fl
  have JZ : ∀ r,r + 1 < S.dW.length → zR (eB T.dW r).m key = if key ∈ yS (ye (ew S K n).dY c) (eB S.dW r).num then none else zR (eB S.dW r).m key:=fun r hr => by
    rw [hT.low r hr]; exact ZB _ (hS.vg (by omega)) key
  have hnone : (∀ r,r + 1 < S.dW.length → zR (eB T.dW r).m key = none) → zR (zK T).m key = none → qw T key (zK S).num (zK S).size (vT S K n) = (false,0,0,0):=fun h1 h2 => by
    have e : zl T key = []:=by
      rw [uT hT.v,vp hT.v,h2,zDG fun r hr => h1 r (by have:=hT.len; omega)]; rfl
    unfold qw;rw [e]; rfl
  unfold UZ at hg
  by_cases hl : wu (ew S K n).needs key m = -1
  · rw [ag hl] at hg
    cases hx : zR (zK S).m key with
    | some x =>
      left
      rw [hx] at hg;obtain ⟨a1,a2⟩:=ZD hT.v hg;obtain ⟨b1,b2⟩:=ZD hS hx;have hlt:=zJD sv hx;rw [uu a1 a2,uu b1 b2,ah (by dsimp only; omega),ah (by dsimp only; omega)];dsimp only;rw [jk]
    | none =>
      rw [hx] at hg;have eS : zl S key = xF S.dW key (S.dW.length - 1):=by rw [uT hS,vp hS,hx]; rfl
      have eT : zl T key = xF T.dW key (S.dW.length - 1):=by rw [uT hT.v,vp hT.v,hg,hT.len]; rfl
      cases hs : xF S.dW key (S.dW.length - 1) with
      | nil =>
        left
        have h0 : ∀ r,r + 1 < S.dW.length → zR (eB S.dW r).m key = none:=fun r hr => by
          cases hy : zR (eB S.dW r).m key with
          | none => rfl
          | some y =>
            obtain ⟨z,t,hz⟩:=zG7 (n:=S.dW.length - 1) (show r < S.dW.length - 1 by omega) (show zR (eB S.dW r).m key ≠ none by rw [hy]; exact fun h => by cases h);rw [hs] at hz; cases hz
        rw [hnone (fun r hr => by rw [JZ r hr,h0 r hr]; split <;> rfl) hg];unfold qw;rw [eS,hs]; rfl
      | cons x t =>
        obtain ⟨x1,x2,x3,x4,_,x6⟩:=tw hs
        by_cases hk : key ∈ yS (ye (ew S K n).dY c) (eB S.dW x.at_).num
        · right
          obtain ⟨j,hj,j1,j2,j3⟩:=h.kill _ n (ai n) key (zEc hk);refine ⟨j,hj,j1,j3,.inr j2,?_⟩;rw [ah (by omega)];refine hnone (fun r hr => ?_) hg;rw [JZ r hr]
          by_cases hr1 : x.at_ < r
          · rw [x6 r hr1 (by omega)]; split <;> rfl
          by_cases e : r = x.at_
          · subst e; rw [ag hk]
          by_cases hy : zR (eB S.dW r).m key = none
          · rw [hy]; split <;> rfl
          have h1:=h.gone hj j2 j3 hr (by rw [j1]; exact hy);rw [j1] at h1;rw [zEF hA.DZ hk (hS.inj (show r < x.at_ by omega) (by omega)),ag h1]
        left
        have hx2 : zR (eB T.dW x.at_).m key = some x.it:=by rw [JZ _ (by omega),ah hk,x3]
        obtain ⟨y,t',hy⟩:=zG7 (n:=S.dW.length - 1) (show x.at_ < S.dW.length - 1 by omega) (show zR (eB T.dW x.at_).m key ≠ none by rw [hx2]; exact fun h => by cases h);obtain ⟨y1,_,y3,y4,_,y6⟩:=tw hy;have hat : y.at_ = x.at_:=by
          rcases Nat.lt_trichotomy y.at_ x.at_ with h1 | h1 | h1
          · have:=y6 _ h1 (by omega)
            rw [hx2] at this; cases this
          · exact h1
          have h2:=x6 _ h1 (by omega);rw [JZ _ (by omega),h2] at y3
          split at y3 <;> cases y3
        rw [hat,hx2] at y3;have hit : y.it = x.it:=(Option.some.inj y3).symm;have ZE : y.gen = x.gen:=by rw [y4,x4,hat,hT.low _ (by omega)]; rfl
        rw [uu (p:=y) (by rw [eT,hy]; rfl) (by rw [eT,hy]; rfl),uu (p:=x) (by rw [eS,hs]; rfl) (by rw [eS,hs]; rfl),hit,ZE]
  rw [ah hl] at hg;obtain ⟨r1,r2⟩:=(zA1 (ew S K n).needs key m).resolve_left hl;obtain ⟨a,ha⟩ : ∃ a : Nat,wu (ew S K n).needs key m = a:=⟨(wu (ew S K n).needs key m).toNat,by omega⟩
  have hkey:=zC3 _ key m hl;rw [ha,cS] at hg hkey;rw [ha] at r2;have hm:=hT.Qx;obtain ⟨j,hj,j1,j2,j3,j4⟩:=h.from n (ai n) a (by omega);have SS:=h.tk (show j ≤ n by omega);rw [j1] at SS
  right
  rcases j4 with ⟨k1,hn⟩ | ⟨k2,hn⟩
  · rw [hn] at hg hkey
    refine ⟨j,hj,hkey,j3,.inl k1,?_⟩;rw [ah (by show ¬ false = true; decide),← SS] at hg;obtain ⟨a1,a2⟩:=ZD hT.v hg;have hlk:=h.look (j:=j) (by omega) (n - (j + 1)) (by omega);rw [show j + 1 + (n - (j + 1)) = n by omega] at hlk;rw [uu a1 a2,ag (by dsimp only; exact ⟨jk,by omega⟩),ag k1];dsimp only;rw [hlk]; rfl
  rw [hn] at hg hkey;refine ⟨j,hj,hkey,j3,.inr k2,?_⟩;rw [ag (show (qA (yC K j)).del = true from rfl)] at hg;rw [ah (by omega)];refine hnone (fun r hr => ?_) hg;rw [JZ r hr]
  by_cases hy : zR (eB S.dW r).m key = none
  · rw [hy]; split <;> rfl
  have hkey : ((yC K j).key : Int) = key:=hkey;have h1:=h.gone hj k2 j3 hr (by rw [hkey]; exact hy);rw [hkey] at h1;rw [zC8 (hT.cge (by omega)),ag h1]
end
end Go.Proofs.YtcgfilmmokmdjaaGreat
namespace Go.Proofs.YtcgfilmmokmdjaaGreat
/-! ### The plan that is made is that of a run -/
theorem zFq {P : fG} {q : Rq} (h : (zT P q).1 = false) : ∃ b,(zT P q).2 = { P with eN:=b }:=by
 unfold zT at h ⊢
 split
 ·
  exact ⟨P.eN,rfl⟩
 rename_i g0;rw [ah g0] at h
 split
 ·
  rename_i g1;rw [ag g1] at h
  split
  ·
   exact ⟨_,rfl⟩
  rename_i g2;rw [ah g2] at h
  split
  ·
   rename_i g3;rw [ag g3] at h
   split
   ·
    exact ⟨P.eN,rfl⟩
   rename_i g4; rw [ah g4] at h; cases h
  rename_i g3; rw [ah g3] at h; cases h
 rename_i g1;rw [ah g1] at h
 split
 ·
  rename_i g2;rw [ag g2] at h
  split
  ·
   rename_i g3;rw [ag g3] at h
   split
   ·
    exact ⟨P.eN,rfl⟩
   rename_i g4; rw [ah g4] at h; cases h
  rename_i g3; rw [ah g3] at h; cases h
 rename_i g2; rw [ah g2] at h; cases h
theorem zHC {S : eL} {K : List Rq} : ∀ (d i : Nat),K.length = i + d → ∃ n b,i ≤ n ∧ n ≤ K.length ∧ (∀ j,i ≤ j → j < n → (zT (ew S K j) (yC K j)).1 = true) ∧ tq (K.drop i) (ew S K i) = { ew S K n with eN:=b }
 | 0,i,h => ⟨i,(ew S K i).eN,ai _,by omega,fun j h1 h2 => by omega,by rw [List.drop_eq_nil_of_le (by omega)]; rfl⟩
 | d + 1,i,h => by
  have hlt : i < K.length:=by omega
  have e : K.drop i = yC K i :: K.drop (i + 1):=by
   rw [dC hlt];unfold yC;rw [aw,aB hlt]; rfl
  rw [e]
  cases hp : (zT (ew S K i) (yC K i)).1
  ·
   rw [Zt hp];obtain ⟨b,hb⟩:=zFq hp;exact ⟨i,b,ai _,by omega,fun j h1 h2 => by omega,hb⟩
  rw [vd hp];obtain ⟨n,b,h1,h2,h3,h4⟩:=zHC (S:=S) (K:=K) d (i + 1) (by omega);refine ⟨n,b,by omega,h2,fun j hj1 hj2 => ?_,h4⟩
  by_cases ej : j = i
  ·
   subst ej; exact hp
  exact h3 j (by omega) hj2
theorem zJe {S : eL} (hS : eA S) (K : List Rq) : ∃ n,n ≤ K.length ∧ n ≤ 16 ∧ Run S K n ∧ (yA S K).2 = 0 ∧ (yA S K).1.res = (ew S K n).res ∧ (yA S K).1.needs = (ew S K n).needs ∧ (yA S K).1.dY = (ew S K n).dY ∧ (yA S K).1.res.length = n:=by
 obtain ⟨n,b,_,h2,h3,h4⟩:=zHC (S:=S) (K:=K) K.length 0 (by omega);have hM : yA S K = (tq K (xB S),0):=by unfold yA; rw [ag ((zZ S).2 hS)]
 have h4 : tq K (xB S) = { ew S K n with eN:=b }:=h4;have hR : Run S K n:=⟨hS,fun j hj => h3 j (aq _) hj⟩
 have hl:=hR.OG n (ai n);have hm:=(zEd hS K).2.m;rw [hM] at hm ⊢;rw [h4] at hm ⊢;have hm : (ew S K n).res.length ≤ 16:=hm;exact ⟨n,h2,by omega,hR,rfl,rfl,rfl,rfl,hl⟩
/-! ### The dY, cut -/
theorem kX : ∀ (l : List Kl) (c : Nat),(ye l c).length = l.length
 | [],_ => rfl
 | k :: r,c => by show (ye r _).length + 1 = r.length + 1; rw [kX]
theorem ZF : ∀ {l : List Kl} {c i : Nat},i < l.length → yE (ye l c) i = ((yE l i).1,(yE l i).2.take (c - xw (l.take i)))
 | k :: r,c,0,_ => rfl
 | k :: r,c,i + 1,h => by
  show yE (ye r (c - k.2.length)) i = ((yE r i).1,(yE r i).2.take (c - xw (k :: r.take i)))
  have h : i + 1 < r.length + 1:=h;rw [ZF (show i < r.length by omega),ZC,Nat.sub_add_eq]
theorem zDB {l : List Kl} {i : Nat} (h : i < l.length) : xw (l.take (i + 1)) = xw (l.take i) + (yE l i).2.length:=by
 rw [cz,zG6 h];unfold xw;rw [bE,List.sum_append]; simp
section
variable {S : eL} {K : List Rq} {n : Nat}
theorem Run.cut (h : Run S K n) (c i : Nat) : ∀ x ∈ (ye (ew S K n).dY c).take i,∃ r,r + 1 < S.dW.length ∧ x.1 = (eB S.dW r).num:=fun x hx => by
 obtain ⟨y,h1,h2⟩:=UY (aY hx);rw [← h2]; exact (wS h.v n).num y h1
theorem Run.fits (h : Run S K n) (c i : Nat) : (zj ((ye (ew S K n).dY c).take i) S).2 = 0 ∧ Kp S (zj ((ye (ew S K n).dY c).take i) S).1 ∧ zK (zj ((ye (ew S K n).dY c).take i) S).1 = zK S ∧
  ∀ r,r + 1 < S.dW.length → eB (zj ((ye (ew S K n).dY c).take i) S).1.dW r = yR (eB S.dW r) (yS ((ye (ew S K n).dY c).take i) (eB S.dW r).num):=
 zA2 _ S h.v ((zFT c (wS h.v n).DZ).sublist (List.take_sublist _ _)) (h.cut c i)
theorem Run.SU (h : Run S K n) (c : Nat) {i : Nat} (hi : i < (ew S K n).dY.length) :
  ∃ r,r + 1 < S.dW.length ∧ (yE (ew S K n).dY i).1 = (eB (zj ((ye (ew S K n).dY c).take i) S).1.dW r).num ∧
   yY (eB (zj ((ye (ew S K n).dY c).take i) S).1.dW r) ((yE (ew S K n).dY i).2.take (c - xw ((ew S K n).dY.take i))) = (0,yR (eB (zj ((ye (ew S K n).dY c).take i) S).1.dW r) ((yE (ew S K n).dY i).2.take (c - xw ((ew S K n).dY.take i)))) ∧
   yM (zj ((ye (ew S K n).dY c).take i) S).1 (yR (eB (zj ((ye (ew S K n).dY c).take i) S).1.dW r) ((yE (ew S K n).dY i).2.take (c - xw ((ew S K n).dY.take i)))) = ((zj ((ye (ew S K n).dY c).take (i + 1)) S).1,0) ∧
   ∀ q,q < S.dW.length → q ≠ r → (eB (zj ((ye (ew S K n).dY c).take i) S).1.dW q).num ≠ (yE (ew S K n).dY i).1:=by
 obtain ⟨h1,h2,h3,h4⟩:=h.fits c i;obtain ⟨r,hr,e⟩:=(wS h.v n).num _ (wk hi);have hl:=h2.len;have hr2 : r + 1 < (zj ((ye (ew S K n).dY c).take i) S).1.dW.length:=by omega
 have e2 : (yE (ew S K n).dY i).1 = (eB (zj ((ye (ew S K n).dY c).take i) S).1.dW r).num:=by rw [e,h2.num r (by omega)]
 have hci : i < (ye (ew S K n).dY c).length:=by rw [kX]; exact hi
 have hk:=zBs h2.v hr2 ((yE (ew S K n).dY i).2.take (c - xw ((ew S K n).dY.take i)));have PX:=zE3 hci h1 (by rw [ZF hi,e2,hk]);rw [ZF hi,e2,hk] at PX;have hm : (eB (zj ((ye (ew S K n).dY c).take i) S).1.dW r).mode ≠ 1:=fun e => by have:=(h2.v.g r (by omega)).2.2.1.1 e; omega
 refine ⟨r,hr,e2,?_,?_,fun q hq hne => by rw [e2]; exact h2.v.Cp (by omega) (by omega) hne⟩
 ·
  unfold yY;rw [ag ((yF _).2 (h2.v.vg (by omega))),ah hm]; rfl
 rw [PX];exact RA h2.v (Zz h2.v hr2 _)
theorem Run.sizes (h : Run S K n) : (zK S).size + (fU (ew S K n).needs : Int) ≤ 2 * S.lim:=by
 have hA:=wS (K:=K) h.v n;have e:=hA.kp.v.Cl.2.2;rw [hA.top,yy,hA.kp.lim] at e;exact e
theorem Run.ZG (h : Run S K n) : ∀ m,m ≤ (ew S K n).needs.length → ∃ i,i ≤ n ∧ (ew S K n).needs.take m = (ew S K i).needs
 | 0,_ => ⟨0,aq _,rfl⟩
 | m + 1,hm => by
  obtain ⟨j,hj,h1,h2,_⟩:=h.from n (ai n) m (by omega);refine ⟨j + 1,hj,?_⟩;have:=h.tk (show j + 1 ≤ n from hj);rw [h2] at this;exact this.symm
theorem Run.part (h : Run S K n) {c m : Nat} (hm : m ≤ (ew S K n).needs.length) (hc : 0 < m → xw (ew S K n).dY ≤ c) :
  xQ (zK S) ((ew S K n).needs.take m) = (0,zX (zK S) ((ew S K n).needs.take m)) ∧
  (yM (zj (ye (ew S K n).dY c) S).1 (zX (zK S) ((ew S K n).needs.take m))).2 = 0 ∧
  Part S (ew S K n).dY (ew S K n).needs c m (yM (zj (ye (ew S K n).dY c) S).1 (zX (zK S) ((ew S K n).needs.take m))).1:=by
 have hf:=h.fits c (ye (ew S K n).dY c).length;rw [aH (ai _)] at hf;obtain ⟨h1,h2,h3,h4⟩:=hf;have hA:=wS (K:=K) h.v n;obtain ⟨sv,sm,sz⟩:=h.v.Cl;have hlim:=h.v.lim;have hlen:=h.v.len;have hl:=h2.len;have hz:=h.sizes;have hz1:=X_ (ew S K n).needs m;have hok : ∀ x ∈ (ew S K n).needs.take m,x.ok:=fun x hx => hA.ok x (aY hx)
 have hn:=vt ((ew S K n).needs.take m) (zK S);have hfit : Fit (zj (ye (ew S K n).dY c) S).1 ((zj (ye (ew S K n).dY c) S).1.dW.length - 1) (zX (zK S) ((ew S K n).needs.take m)):=by
  refine ⟨by omega,kU _ sv hok (by omega),?_,?_,?_,fun _ => ?_⟩
  ·
   rw [hn.1,← h3]; rfl
  ·
   rw [hn.2.2,sm]; exact ⟨fun _ => by omega,fun _ => rfl⟩
  ·
   rw [yy,h2.lim]; omega
  obtain ⟨i,hi,e⟩:=h.ZG m hm;have hB:=wS (K:=K) h.v i;have ht:=hB.kp.v.top;have hpt : zK (ew S K i).t = eB (ew S K i).t.dW ((ew S K i).t.dW.length - 1):=rfl;rw [← hpt,hB.top,hB.kp.lim] at ht;rw [h2.lim,e]; exact ht
 have hch:=RA h2.v hfit;refine ⟨zGq sv sm hok (by omega),by rw [hch],?_⟩;rw [hch];refine ⟨X7 h2.v hfit,?_,fun r hr => ?_,Zd h2.v _,hm,hc⟩
 ·
  show ((zj (ye (ew S K n).dY c) S).1.dW.set _ _).length = _
  rw [bC]; exact hl
 rw [k6 (by omega),ah (by omega)];exact h4 r hr
end
end Go.Proofs.YtcgfilmmokmdjaaGreat
namespace Go.Proofs.YtcgfilmmokmdjaaGreat
open Go.RowKit Go.Maps
theorem zLq : Keyed Tryz.prog 2:=int_keyed Tryz.underlying2
theorem zMg (w : World) : (zeroValue 3).run Tryz.prog w = .ok (.int .i64 0) w:=by kernel_rfl
def jf (w : World) (b m : Nat) (f : Int → Option Int) : Prop:=
 ∃ D : DataW Unit,w.ownsMap Tryz.prog 2 (plainElem Tryz.prog 3) b m D ∧ ∀ o,D.atKey (.int .i64 o) (.lit (.int .i64 0)) = .lit (.int .i64 ((f o).getD 0))
theorem jf.lt {w : World} {b m : Nat} {f : Int → Option Int} (h : jf w b m f) : b < w.heap.size:=by
 obtain ⟨D,h1,_⟩:=h;exact h1.lt
theorem jf.below {w w' : World} {b m : Nat} {f : Int → Option Int} (h : jf w b m f) (hb : Below w.heap.size w w') : jf w' b m f:=by
 have hl:=h.lt;obtain ⟨D,⟨es,clock,h0,h1⟩,h2⟩:=h;exact ⟨D,⟨es,clock,by rw [hb.block b hl]; exact h0,h1⟩,h2⟩
theorem jf.new (w : World) : jf (w.alloc (.map #[] 0)) w.heap.size 0 (fun _ => none):=⟨_,World.ownsMap_made _ _ _ _,fun _ => rfl⟩
theorem jf.mono {w : World} {b m m' : Nat} {f : Int → Option Int} (h : jf w b m f) (hm : m ≤ m') : jf w b m' f:=by
 obtain ⟨D,h1,h2⟩:=h;exact ⟨D,h1.mono hm,h2⟩
theorem jf.put {w : World} {b m : Nat} {f : Int → Option Int} {D : DataW Unit} {k i : Int} (h1 : w.ownsMap Tryz.prog 2 (plainElem Tryz.prog 3) b m (D.put (.int .i64 k) (.lit (.int .i64 i)))) (hD : IsMap D)
  (h2 : ∀ o,D.atKey (.int .i64 o) (.lit (.int .i64 0)) = .lit (.int .i64 ((f o).getD 0))) (hk : WideAt.IsKeyLit (.int .i64 k)) : jf w b m (fun o => if o = k then some i else f o):=by
 refine ⟨_,h1,fun o => ?_⟩
 by_cases e : o = k
 ·
  subst e;rw [atKey_put_same hD hk]
  show _ = DataW.lit (Lit.int .i64 ((if o = o then some i else f o : Option Int).getD 0))
  rw [ag rfl]; rfl
 rw [atKey_put_other (fun h => e (by injection h)),h2 o]
 show _ = DataW.lit (Lit.int .i64 ((if o = k then some i else f o : Option Int).getD 0))
 rw [ah e]
/-! ### now -/
abbrev KO (v : Vl) : Array Value:=#[.bool v.1,.int .i64 v.2.1,.int .i64 v.2.2.1,.int .i64 v.2.2.2]
abbrev ML (v : Vl) : Value:=.agg (KO v)
noncomputable def U0 (fo : Bool) (Y : jJ) (top size : Int) (f : Int → Option Int) : Vl:=
 if fo = true then (if Y.gen = top ∧ size ≤ Y.it.off then (true,1 + (f Y.it.off).getD 0,0,0) else (true,0,Y.gen,Y.it.off)) else (false,0,0,0)
theorem zLi (s : eL) (key top size : Int) (f : Int → Option Int) : qw s key top size f = U0 (!(zl s key).isEmpty) ((zl s key).headD wY) top size f:=by
 unfold qw U0
 cases (zl s key).isEmpty <;> rfl
theorem zGr (s : eL) (a : Option Addr) (n c : Nat) (L : List GP) (key top size : Int) (bm m : Nat) (f : Int → Option Int) (w : World) (hr : fH w (.slice a n c) L) (hg : ea L = s.dW) (hl : fA 1000 s.dW)
  (hm : jf w bm m f) (hf : ∀ o,0 ≤ (f o).getD 0 ∧ (f o).getD 0 ≤ 1000) (SV : (Lit.int .i64 ((zl s key).headD wY).it.off).wf = true) :
  Calls Tryz.prog 30 #[ze s.id s.lim s.ro a n c,.int .u64 key,.int .i64 top,.int .i64 size,.map (some bm)] w fun e w' => e = .returned (ML (qw s key top size f)) ∧ Below w.heap.size w w':=by
 have C4:=zh (fun W (hb : Below w.heap.size w W) => YE s a n c L W (hr.below hb) hg hl key);have HM:=zh hm;have HF:=zh hf;rw [zLi];obtain ⟨J1,Cw,J2,sg⟩:=s;dsimp only at C4 hg hl SV ⊢;generalize (zl (⟨J1,Cw,J2,sg⟩ : eL) key).headD wY = Y at *;generalize (!(zl (⟨J1,Cw,J2,sg⟩ : eL) key).isEmpty) = fo at *;obtain ⟨yg,ym,yr,⟨yk,yc,yo,yz⟩,ya⟩:=Y;have HE:=zh (show U0 fo ⟨yg,ym,yr,⟨yk,yc,yo,yz⟩,ya⟩ top size f = if fo = true then (if yg = top ∧ size ≤ yo then (true,1 + (f yo).getD 0,0,0) else (true,0,yg,yo)) else (false,0,0,0) from rfl);generalize U0 fo ⟨yg,ym,yr,⟨yk,yc,yo,yz⟩,ya⟩ top size f = R at *;dsimp only [N8,Rz] at C4 SV;clear hr hg hl hm hf
 go_enter Tryz.func30,Tryz.ntmps30
 go_upto_region 1 with fail;change Code.wp _ _ _ _ ((w.alloc (.cells (zN J1 Cw J2 a n c) 27)).alloc (.cells #[.bool false,.int .i64 0,.int .i64 0,.int .i64 0] 92));have hb1:=zS w J1 Cw J2 a n c 27;have HS:=zh (dX.new w (zN J1 Cw J2 a n c) 27);have KN : (w.alloc (.cells (zN J1 Cw J2 a n c) 27)).heap.size = w.heap.size + 1:=by simp
 generalize w.alloc (.cells (zN J1 Cw J2 a n c) 27) = w1 at *;have hb2:=(aj w1.heap.size w1).alloc (ai _) (.cells #[.bool false,.int .i64 0,.int .i64 0,.int .i64 0] 92);have HV:=zh (dX.new w1 #[.bool false,.int .i64 0,.int .i64 0,.int .i64 0] 92);have hlo : w.heap.size ≤ w1.heap.size:=hb1.size;generalize w1.alloc (.cells #[.bool false,.int .i64 0,.int .i64 0,.int .i64 0] 92) = w2 at *;have HB:=zh (zA hb1 hb2);replace HS:=zh (HS.out.below hb2);replace HM:=zh ((HM.out.below hb1).below hb2);clear hb1 hb2;rw [KN] at HV hlo;clear KN;obtain ⟨k0,k1,k2,k3⟩:=HS.out.iu.q;go_wp2_with fail;refine (C4.out w2 HB.out).mono ?_;rintro e w3 ⟨rfl,hb⟩;clear C4 k0 k1 k2 k3;replace HB:=zh (zA HB.out hb);replace HM:=zh (HM.out.below hb);replace HV:=zh (HV.out.below hb);clear hb HS;go_upto_region 2 with fail
 change Code.wp _ _ _ _ (w3.alloc (.cells #[.int .i64 yg,.int .i64 ym,.int .i64 yr,.int .u64 yk,.int .u32 yc,.int .i64 yo,.int .i64 yz] 51));have hb:=(aj w3.heap.size w3).alloc (ai _) (.cells #[.int .i64 yg,.int .i64 ym,.int .i64 yr,.int .u64 yk,.int .u32 yc,.int .i64 yo,.int .i64 yz] 51);have HP:=zh (dX.new w3 #[.int .i64 yg,.int .i64 ym,.int .i64 yr,.int .u64 yk,.int .u32 yc,.int .i64 yo,.int .i64 yz] 51);replace HB:=zh (zA HB.out hb);replace HM:=zh (HM.out.below hb);replace HV:=zh (HV.out.below hb);clear hb;generalize w3.alloc (.cells #[.int .i64 yg,.int .i64 ym,.int .i64 yr,.int .u64 yk,.int .u32 yc,.int .i64 yo,.int .i64 yz] 51) = w4 at *;generalize w3.heap.size = bP at *;have v0:=HV.out.cell (i:=0) rfl;have v1:=HV.out.cell (i:=1) rfl;have v2:=HV.out.cell (i:=2) rfl;have v3:=HV.out.cell (i:=3) rfl;have vf:=HV.out.frozen
 have p0:=HP.out.cell (i:=0) rfl;have p5:=HP.out.cell (i:=5) rfl;have DM : ∀ (R : Vl),Below w.heap.size w (pts w4 (w.heap.size + 1) [(0,.bool R.1),(1,.int .i64 R.2.1),(2,.int .i64 R.2.2.1),(3,.int .i64 R.2.2.2)]):=fun R => zD hlo _ HB.out
 cases fo
 ·
  rw [ah (by decide)] at HE;go_wp2_with fail;change bodyPost _ _ _ _ _ (pts w4 (w.heap.size + 1) [(0,.bool false),(1,.int .i64 0),(2,.int .i64 0),(3,.int .i64 0)]);have hby:=dX.sets [(0,.bool false),(1,.int .i64 0),(2,.int .i64 0),(3,.int .i64 0)] HV.out;simp only [cG,cV,aM,aN,aK] at hby;have b0:=hby.cell (i:=0) rfl;have b1:=hby.cell (i:=1) rfl;have b2:=hby.cell (i:=2) rfl;have b3:=hby.cell (i:=3) rfl;have ey:=DM (false,0,0,0);dsimp only at ey;generalize pts w4 (w.heap.size + 1) [(0,.bool false),(1,.int .i64 0),(2,.int .i64 0),(3,.int .i64 0)] = V at *;exact au (v:=ML (false,0,0,0)) (by simp [results,Tryz.results30,go_sem,b0,b1,b2,b3]) rfl ⟨by rw [HE.out],ey⟩
 rw [ag rfl] at HE
 by_cases h1 : yg = top
 ·
  subst h1
  by_cases h2 : size ≤ yo
  ·
   rw [ag ⟨rfl,h2⟩] at HE;obtain ⟨D,hown,hat⟩:=HM.out;have hat:=zh hat;have hown:=zh hown;have e1 : (yg == yg) = true:=by simp
   obtain ⟨hf0,hf1⟩:=HF.out yo;generalize hz : (f yo).getD 0 = z at *;have Hz:=zh hz;clear hz;go_wp2_with (first | (at_lookup; refine wpList_lookup_own_int _ rfl _ _ 84 rfl 2 3 .i64 zLq Tryz.underlying84 Tryz.underlying3 (zMg _) bm m D rfl hown.out _ _ rfl (keyOf_int_mk Tryz.underlying2 SV) ?_; intro cc ZH hwc; obtain rfl : cc = z:=by (have h:=hat.out yo; rw [ZH,Hz.out] at h; injection h with h; injection h)) | go_in);change bodyPost _ _ _ _ _ (pts w4 (w.heap.size + 1) [(0,.bool true),(1,.int .i64 (1 + cc)),(2,.int .i64 0),(3,.int .i64 0)]);have hby:=dX.sets [(0,.bool true),(1,.int .i64 (1 + cc)),(2,.int .i64 0),(3,.int .i64 0)] HV.out;simp only [cG,cV,aM,aN,aK] at hby;have b0:=hby.cell (i:=0) rfl;have b1:=hby.cell (i:=1) rfl;have b2:=hby.cell (i:=2) rfl;have b3:=hby.cell (i:=3) rfl;have ey:=DM (true,(1 + cc),0,0);dsimp only at ey
   generalize pts w4 (w.heap.size + 1) [(0,.bool true),(1,.int .i64 (1 + cc)),(2,.int .i64 0),(3,.int .i64 0)] = V at *;exact au (v:=ML (true,(1 + cc),0,0)) (by simp [results,Tryz.results30,go_sem,b0,b1,b2,b3]) rfl ⟨by rw [HE.out],ey⟩
  rw [ah fun h => h2 h.2] at HE;have e1 : (yg == yg) = true:=by simp
  go_wp2_with fail;change bodyPost _ _ _ _ _ (pts w4 (w.heap.size + 1) [(0,.bool true),(1,.int .i64 0),(2,.int .i64 yg),(3,.int .i64 yo)]);have hby:=dX.sets [(0,.bool true),(1,.int .i64 0),(2,.int .i64 yg),(3,.int .i64 yo)] HV.out;simp only [cG,cV,aM,aN,aK] at hby;have b0:=hby.cell (i:=0) rfl;have b1:=hby.cell (i:=1) rfl;have b2:=hby.cell (i:=2) rfl;have b3:=hby.cell (i:=3) rfl;have ey:=DM (true,0,yg,yo);dsimp only at ey;generalize pts w4 (w.heap.size + 1) [(0,.bool true),(1,.int .i64 0),(2,.int .i64 yg),(3,.int .i64 yo)] = V at *;exact au (v:=ML (true,0,yg,yo)) (by simp [results,Tryz.results30,go_sem,b0,b1,b2,b3]) rfl ⟨by rw [HE.out],ey⟩
 rw [ah fun h => h1 h.1] at HE;have e1 : (yg == top) = false:=by simpa using h1
 go_wp2_with fail;change bodyPost _ _ _ _ _ (pts w4 (w.heap.size + 1) [(0,.bool true),(1,.int .i64 0),(2,.int .i64 yg),(3,.int .i64 yo)]);have hby:=dX.sets [(0,.bool true),(1,.int .i64 0),(2,.int .i64 yg),(3,.int .i64 yo)] HV.out;simp only [cG,cV,aM,aN,aK] at hby;have b0:=hby.cell (i:=0) rfl;have b1:=hby.cell (i:=1) rfl;have b2:=hby.cell (i:=2) rfl;have b3:=hby.cell (i:=3) rfl;have ey:=DM (true,0,yg,yo);dsimp only at ey;generalize pts w4 (w.heap.size + 1) [(0,.bool true),(1,.int .i64 0),(2,.int .i64 yg),(3,.int .i64 yo)] = V at *;exact au (v:=ML (true,0,yg,yo)) (by simp [results,Tryz.results30,go_sem,b0,b1,b2,b3]) rfl ⟨by rw [HE.out],ey⟩
end Go.Proofs.YtcgfilmmokmdjaaGreat
namespace Go.Proofs.YtcgfilmmokmdjaaGreat
open Go.RowKit
end Go.Proofs.YtcgfilmmokmdjaaGreat
