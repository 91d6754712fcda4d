import Derived.Test.YtcgfilmmokmdjaaGreatGv
set_option linter.all false
set_option maxRecDepth 100000
set_option maxHeartbeats 32000000
namespace Go.Proofs.YtcgfilmmokmdjaaGreat
open Go.RowKit
def VU (w:World):Calls Tryz.prog 53 #[.int .i64 4096] w fun e w'=>e=.returned (.int .i64 4120)/\Below w.heap.size w w':=
 (Ox 4096 w).mono fun _ _ ⟨he,hw⟩=>⟨he.trans rfl,hw▸aj _ _⟩
def zNx (w:World):Calls Tryz.prog 53 #[.int .i64 0] w fun e w'=>e=.returned (.int .i64 24)/\Below w.heap.size w w':=
 (Ox 0 w).mono fun _ _ ⟨he,hw⟩=>⟨he.trans rfl,hw▸aj _ _⟩
def zGS (i l:Int) (r:Bool) (a:Option Addr) (n c:Nat) (w:World) (hA:¬ (0<=i/\i<4/\4136<=l/\l<=262144)) :
  Calls Tryz.prog 47 #[zQ i l r a n c] w fun e w'=>e=.returned (.bool false)/\Below w.heap.size w w':=by
 have HZ:=zh (fun W=>VU W);have eO:=zh (fp.new w i l r a n c 27);have eP:=zh (zR w i l r a n c 27);have hc:i<0∨(0<=i/\4<=i)∨(0<=i/\i<4/\l<4136)∨(0<=i/\i<4/\4136<=l/\262144<l):=by omega
 clear hA
 go_enter Tryz.func47,Tryz.ntmps47
 go_upto_region 1 with fail;obtain ⟨W,hW⟩:∃ W,w.alloc (.cells (zM i l r a n c) 27)=W:=⟨_,rfl⟩
 change Code.wp _ _ _ _ (w.alloc (.cells (zM i l r a n c) 27));rw[hW] at eO eP |-;have pH:=eO.o.lt;have k0:=zB eO.o.c0;have k1:=zB eO.o.c1;clear hW;rcases hc with h1|⟨h1,h2⟩|⟨h1,h2,h3⟩|⟨h1,h2,h3,h4⟩
 ·have e1:decide (i<0)=true:=by simp;omega
  refine zD (by kernel_rfl) (by kernel_rfl) ?_
  repeat (go_big_quiet_step ((exact zH (HZ.o _))))
  refine ay ?_;intro _ hw';obtain ⟨q,hw'⟩:=hw';subst hw';have HQ:=zh (zA eP.o q.h);clear k0 k1;go_wp2_with fail;go_ret;exact ⟨rfl,HQ.o⟩
 ·have e1:decide (i<0)=false:=by simp;omega
  have e2:decide (4<=i)=true:=by simp;omega
  refine zD (by kernel_rfl) (by kernel_rfl) ?_
  repeat (go_big_quiet_step ((exact zH (HZ.o _))))
  refine ay ?_;intro _ hw';obtain ⟨q,hw'⟩:=hw';subst hw';have HQ:=zh (zA eP.o q.h);clear k0 k1;go_wp2_with fail;go_ret;exact ⟨rfl,HQ.o⟩
 ·have e1:decide (i<0)=false:=by simp;omega
  have e2:decide (4<=i)=false:=by simp;omega
  have e3:decide (l<4136)=true:=by simp;omega
  refine zD (by kernel_rfl) (by kernel_rfl) ?_
  repeat (go_big_quiet_step ((exact zH (HZ.o _))))
  refine ay ?_;intro _ hw';obtain ⟨q,hw'⟩:=hw';subst hw';have HQ:=zh (zA eP.o q.h);clear k0 k1;go_wp2_with fail;go_ret;exact ⟨rfl,HQ.o⟩
 have e1:decide (i<0)=false:=by simp;omega
 have e2:decide (4<=i)=false:=by simp;omega
 have e3:decide (l<4136)=false:=by simp;omega
 have e4:decide (262144<l)=true:=by simp;omega
 refine zD (by kernel_rfl) (by kernel_rfl) ?_
 repeat (go_big_quiet_step ((exact zH (HZ.o _))))
 refine ay ?_;intro _ hw';obtain ⟨q,hw'⟩:=hw';subst hw';have HQ:=zh (zA eP.o q.h);clear k0 k1;go_wp2_with fail;go_ret;exact ⟨rfl,HQ.o⟩
end Go.Proofs.YtcgfilmmokmdjaaGreat
