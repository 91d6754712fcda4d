import Derived.Test.YtcgfilmmokmdjaaGreatQAG
import Derived.Test.YtcgfilmmokmdjaaGreatGv
import Derived.Test.YtcgfilmmokmdjaaGreatQAC
import Derived.StillTailTactics
set_option linter.all false
set_option maxRecDepth 100000
set_option maxHeartbeats 32000000
namespace Go.Proofs.YtcgfilmmokmdjaaGreat
open Go.RowKit
theorem S1 (w:World):Calls Tryz.prog 53 #[.int .i64 4096] w fun e w'=>e=.returned (.int .i64 4120)∧Below w.heap.size w w':=
 (LS 4096 w).mono fun _ _ ⟨he,hw⟩=>⟨he.trans rfl,hw▸aj _ _⟩
theorem zMO (w:World):Calls Tryz.prog 53 #[.int .i64 0] w fun e w'=>e=.returned (.int .i64 24)∧Below w.heap.size w w':=
 (LS 0 w).mono fun _ _ ⟨he,hw⟩=>⟨he.trans rfl,hw▸aj _ _⟩
theorem zE9 (i l:Int) (r:Bool) (a:Option Addr) (n c:Nat) (w:World) (hA:¬ (0≤i∧i<4∧4136≤l∧l≤262144)) :
  Calls Tryz.prog 47 #[zO i l r a n c] w fun e w'=>e=.returned (.bool false)∧Below w.heap.size w w':=by
 have HZ:=zh (fun W=>S1 W);have eB:=zh (eW.new w i l r a n c 27);have eH:=zh (zM w i l r a n c 27);have hc:i<0∨(0≤i∧4≤i)∨(0≤i∧i<4∧l<4136)∨(0≤i∧i<4∧4136≤l∧262144<l):=by omega
 clear hA
 go_enter Tryz.func47,Tryz.ntmps47
 go_upto_region 1 with fail;obtain ⟨W,hW⟩:∃ W,w.alloc (.cells (zK i l r a n c) 27)=W:=⟨_,rfl⟩
 change Code.wp _ _ _ _ (w.alloc (.cells (zK i l r a n c) 27));rw[hW] at eB eH ⊢;have nW:=eB.out.lt;have k0:=zB eB.out.c0;have k1:=zB eB.out.c1;clear hW;rcases hc with h1|⟨h1,h2⟩|⟨h1,h2,h3⟩|⟨h1,h2,h3,h4⟩
 ·
  have e1:decide (i<0)=true:=by simp;omega
  refine zC (by kernel_rfl) (by kernel_rfl) ?_
  repeat (go_big_quiet_step ((exact zE (HZ.out _))))
  refine aA ?_;intro _ hw';obtain ⟨q,hw'⟩:=hw';subst hw';have HQ:=zh (zA eH.out q.h);clear k0 k1;go_wp2_with fail;go_ret;exact ⟨rfl,HQ.out⟩
 ·
  have e1:decide (i<0)=false:=by simp;omega
  have e2:decide (4≤i)=true:=by simp;omega
  refine zC (by kernel_rfl) (by kernel_rfl) ?_
  repeat (go_big_quiet_step ((exact zE (HZ.out _))))
  refine aA ?_;intro _ hw';obtain ⟨q,hw'⟩:=hw';subst hw';have HQ:=zh (zA eH.out q.h);clear k0 k1;go_wp2_with fail;go_ret;exact ⟨rfl,HQ.out⟩
 ·
  have e1:decide (i<0)=false:=by simp;omega
  have e2:decide (4≤i)=false:=by simp;omega
  have e3:decide (l<4136)=true:=by simp;omega
  refine zC (by kernel_rfl) (by kernel_rfl) ?_
  repeat (go_big_quiet_step ((exact zE (HZ.out _))))
  refine aA ?_;intro _ hw';obtain ⟨q,hw'⟩:=hw';subst hw';have HQ:=zh (zA eH.out q.h);clear k0 k1;go_wp2_with fail;go_ret;exact ⟨rfl,HQ.out⟩
 have e1:decide (i<0)=false:=by simp;omega
 have e2:decide (4≤i)=false:=by simp;omega
 have e3:decide (l<4136)=false:=by simp;omega
 have e4:decide (262144<l)=true:=by simp;omega
 refine zC (by kernel_rfl) (by kernel_rfl) ?_
 repeat (go_big_quiet_step ((exact zE (HZ.out _))))
 refine aA ?_;intro _ hw';obtain ⟨q,hw'⟩:=hw';subst hw';have HQ:=zh (zA eH.out q.h);clear k0 k1;go_wp2_with fail;go_ret;exact ⟨rfl,HQ.out⟩
end Go.Proofs.YtcgfilmmokmdjaaGreat
