/- Parts of the proofs: WkRefEncL, WkLam1, WkRv2. No condition beyond those at each theorem. -/
import Derived.Deep.Cut
import Derived.Test.YtknpbekoenbphaaGreatDoorQk06
set_option linter.unusedVariables false
set_option linter.unusedSimpArgs false
set_option maxHeartbeats 16000000
set_option maxRecDepth 100000
namespace Go.Proofs.YtknpbekoenbphaaGreatDoor
open Go Go.RowKit Licit
theorem kvf {α:Type} (one:α→Bs × Int) (xs:List α) (acc:Bs) (k:Nat) (hk:k<xs.length) :
 kl9 one (xs.drop k) acc=if (one xs[k]).2≠0 then ([],(one xs[k]).2) else kl9 one (xs.drop (k+1)) (acc++(one xs[k]).1):=by
 rw [List.drop_eq_getElem_cons hk];rfl
theorem kqh (s:Bs):(ka9 s).1.length≤65600:=by
 unfold ka9;split
 ·simp
 ·have:=ke7 (n:=(s.length:Int)) (by omega) (by omega)
  rw [kdf,Int.toNat_natCast] at this
  simp;omega
theorem kgm (v:Value) (xs:List Bs) (w:World) (h:IsSl v (xs.map vS) w) (hl:∀x∈xs,x.length≤maxLen) :
 Calls Tryz.prog 110 #[v] w fun e w'=>e = .returned (.tuple #[.string (B (kco ka9 xs).1),.int .i64 (kco ka9 xs).2])∧Below w.heap.size w w':=by
 obtain ⟨hm,h⟩:=h;rw [List.length_map] at hm;unfold maxLen at hm;have hd0:=ke7 (n:=(xs.length:Int)) (by omega) (by omega);rw [Int.toNat_natCast] at hd0;have HD:=fun w=>kgc (xs.length+1) (xs.length:Int) w (by omega) (by omega) (by omega)
 rw [Int.toNat_natCast] at HD;have HD:=hdd HD;rcases h with ⟨a,cap,rfl,h⟩|⟨b,off,cap,rfl,h0,hc⟩
 ·obtain rfl:xs=[]:=by simpa using h
  have R:kco ka9 ([]:List Bs)=(Lib.decDigits 0++[59],0):=rfl;have HR:=hdd R;have hd0':(B (Lib.decDigits 0)).size≤21:=hd0;have HD':=hdd (fun w=>(show Calls Tryz.prog 170 #[.int .i64 0] w fun e w'=>e = .returned (.string (B (Lib.decDigits 0)))∧Below w.heap.size w w' from HD.out w));clear R h hd0
  go_enter Tryz.func110,Tryz.ntmps110
  go_wp2_with (first
   |(go_at_call 170;refine (HD'.out _).mono ?_;rintro e w1 ⟨rfl,hb⟩))
  refine wp_loop_rounds 1 ?_;rw [rounds_succ]
  go_wp2
  go_ret2
  exact ⟨by rw [HR.out,←ka5];rfl,hb⟩
 ·rw [List.length_map] at h0 hc
  by_cases hbig:1024<xs.length
  ·have R:kco ka9 xs=([],10):=by simp [kco,hbig]
   have HR:=hdd R;clear R hc
   go_enter Tryz.func110,Tryz.ntmps110
   rw [List.length_map]
   go_wp2
   go_ret2
   exact ⟨by rw [HR.out];rfl,Below.refl _ _⟩
  ·have HR:=hdd (show kco ka9 xs=kl9 ka9 xs (Lib.decDigits xs.length++[59]) by simp [kco,hbig])
   have hbw:b<w.heap.size:=by
    have:=hc 0 (by omega)
    exact World.block_lt_of_cell? w _ (this.trans (List.getElem?_eq_getElem (by simpa using h0)))
   have HC:=hdd hc;clear hc
   go_enter Tryz.func110,Tryz.ntmps110
   rw [List.length_map]
   go_wp2_with (first
    |(go_at_call 170;refine (HD.out _).mono ?_;rintro e w1 ⟨rfl,hb⟩))
   have Hb:=hdd hb;clear hb
   go_loopw [4,18] (fun o i wr=>∃(k:Nat) (acc:Bs),k≤xs.length∧i = .int .i64 k∧o = .string (B acc)∧acc.length≤22+k*65600∧Below w.heap.size w wr∧Hid (kl9 ka9 (xs.drop k) acc=kco ka9 xs)) (fun _ i _=>xs.length - (intOf i).toNat)
   case atStart=>exact ⟨0,Lib.decDigits xs.length++[59],Nat.zero_le _,rfl,by rw [←ka5];rfl,by rw [kdf] at hd0;simp;omega,Hb.out,HR.out.symm⟩
   case round =>
    obtain ⟨k,acc,hk,rfl,rfl,hal,hbr,H⟩:=hrel;have Hbr:=hdd hbr;have hszr:=hbr.size
    by_cases hlt:k<xs.length
    ·have hcell:wr.cell? ⟨b,off+k,none⟩=some (vS xs[k]):=by
      rw [hbr.cell (p:=⟨b,off+k,none⟩) hbw,HC.out k hlt];simp [hlt]
     have hx:=hl xs[k] (List.getElem_mem hlt);have HA:=hdd (kvf ka9 xs acc k hlt);clear hbr;unfold vS at hcell
     by_cases hone:(ka9 xs[k]).2=0
     ·have hone':((ka9 xs[k]).2 == 0)=true:=by simp [hone]
      have hone'':((ka9 xs[k]).2 != 0)=false:=by simp [hone]
      have HO:=hdd hone;have hln:=kqh xs[k];have hs1:(B acc).size=acc.length:=rfl;have hs2:(B (ka9 xs[k]).1).size=(ka9 xs[k]).1.length:=rfl;clear hone
      go_wp2_with (first
       |(go_at_call 156;refine (ke5 xs[k] _ hx).mono ?_;rintro e w3 ⟨rfl,hb3⟩;have Hb3:=hdd hb3;have hs3:=hb3.size;clear hb3))
      go_roundw
      case rel =>
       refine ⟨k+1,acc++(ka9 xs[k]).1,by omega,by go_num,by rw [←ka5],by rw [List.length_append];omega,?_,?_⟩
       ·exact Hbr.out.trans (Hb3.out.mono (by omega))
       ·have:=HA.out
        rw [if_neg (by simp [HO.out])] at this;exact this.symm.trans H.out
      case measure=>simp [intOf];omega
     ·have hone':((ka9 xs[k]).2 == 0)=false:=by simpa using hone
      have hone'':((ka9 xs[k]).2 != 0)=true:=by simpa using hone
      have hfin:=H.out;have HF:Hid (kco ka9 xs=([],(ka9 xs[k]).2)):=by show _=_;rw [←hfin,HA.out,if_pos hone]
      clear hone hfin
      go_wp2_with (first
       |(go_at_call 156;refine (ke5 xs[k] _ hx).mono ?_;rintro e w3 ⟨rfl,hb3⟩;have Hb3:=hdd hb3;have hs3:=hb3.size;clear hb3))
      go_ret2
      exact ⟨by rw [HF.out];rfl,Hbr.out.trans (Hb3.out.mono (by omega))⟩
    ·obtain rfl:k=xs.length:=by omega
     have HF:Hid (kco ka9 xs=(acc,0)):=by
      show _=_;have hfin:=H.out;rw [←hfin,List.drop_length];rfl
     clear hbr
     go_wp2
     go_ret2
     exact ⟨by rw [HF.out];rfl,Hbr.out⟩
theorem kgj {w:World} {b:Nat} {cs:Array Value} {T:TypeId} {fr:Nat × Nat} {xs:List Value} {cap:Nat} (h:w.heap[b]? = some (.cells cs T fr)) (hx:xs=cs.toList) (hm:xs.length≤maxLen) (h0:0<xs.length):IsSl (.slice (some ⟨b,0,none⟩) xs.length cap) xs w:=by
 refine ⟨hm,.inr ⟨b,0,cap,rfl,h0,fun i hi=>?_⟩⟩;rw [kaa h,Nat.zero_add,hx,Array.getElem?_toList]
theorem Tryz.infoStr:(Tryz.prog.info? 9).map (fun i=>(i.zero,i.size,i.bytes))=some (some (.string ⟨#[]⟩),1,16):=by kernel_rfl
abbrev kcy (f:FuncId) (args:Array Value) (w:World) (v:Value):Prop:=Calls Tryz.prog f args w fun e w'=>e = .returned v∧Below w.heap.size w w'
theorem kz0 (v:Value) (xs:List Bs) (w:World) (h:IsSl v (xs.map vS) w) (hl:∀x∈xs,x.length≤maxLen) :
 kcy 48 #[v] w (.string (B (hsh xs))):=by
 have HT:=hdd (kgm v xs w h hl);have hln:=kts xs;obtain ⟨T,hT⟩:∃T,(kco ka9 xs).1=T:=⟨_,rfl⟩;obtain ⟨R,hR⟩:∃R,hsh xs=R:=⟨_,rfl⟩;have hS:Sha.sha T=R:=by rw [←hT,←hR];rfl
 rw [hT] at HT hln;rw [hR];have HS:=hdd hS;clear hT hR hS h hl
 go_enter Tryz.func48,Tryz.ntmps48
 go_wp2_with (first
  |(go_at_call 110;refine HT.out.mono ?_;rintro e w1 ⟨rfl,hb1⟩;have Hb1:=hdd hb1;clear hb1)
  |(go_at_call 111;refine (kue T _ hln).mono ?_;rintro e w2 ⟨rfl,hb2⟩;have Hb2:=hdd hb2;clear hb2))
 go_ret
 exact ⟨congrArg (fun x=>Ending.returned (.string (B x))) HS.out,Hb1.out.trans (Hb2.out.mono Hb1.out.size)⟩
theorem kli (n:Int) (w:World):kcy 86 #[.int .i64 n] w (.string (B (num n))):=by
 have HT:=hdd (kjw n w)
 go_enter Tryz.func86,Tryz.ntmps86
 go_wp2_with (go_at_call 155;refine HT.out.mono ?_;rintro e w1 ⟨rfl,hb1⟩;have Hb1:=hdd hb1;clear hb1)
 go_ret
 exact ⟨rfl,Hb1.out⟩
theorem _root_.Go.RowKit.Below.next {B:Nat} {w w1 w2:World} (h:Below B w w1) (h2:Below w1.heap.size w1 w2) (hB:B≤w.heap.size:=by exact Nat.le_refl _):Below B w w2:=h.trans (h2.mono (Nat.le_trans hB h.size))
theorem kkk (n:Int):(num n).length≤maxLen:=by
 unfold num kl2;split
 ·simp [maxLen]
 ·rename_i h
  have:=Lib.itoa_length_le n (by omega) (by omega)
  unfold Lib.itoa at this;rw [if_neg (by omega)] at this;simp [maxLen];omega
theorem ksz (b h:Int) (w:World) (hk:ket b h=true):kcy 140 #[.agg #[.int .i64 b,.int .i64 h]] w (.int .i64 0):=by
 have hk':8≤b∧b≤256∧0≤h∧h≤6:=by simpa [ket] using hk
 obtain ⟨h1,h2,h3,h4⟩:=hk';have d1:decide (b<8)=false:=by simp;omega
 have d2:decide (256<b)=false:=by simp;omega
 have d3:decide (h<0)=false:=by simp;omega
 have d4:decide (6<h)=false:=by simp;omega
 clear hk
 go_enter Tryz.func140,Tryz.ntmps140
 go_wp2
 go_ret
 exact ⟨rfl,(Below.refl _ _).alloc (Nat.le_refl _) _⟩
theorem kvj (b h:Int) (w:World) (hk:ket b h=false):kcy 140 #[.agg #[.int .i64 b,.int .i64 h]] w (.int .i64 3):=by
 have hk':¬ (8≤b∧b≤256∧0≤h∧h≤6):=by simpa [ket] using hk
 have HK:=hdd hk';clear hk hk'
 by_cases h1:b<8
 ·have d1:decide (b<8)=true:=by simpa using h1
  go_enter Tryz.func140,Tryz.ntmps140
  go_wp2
  go_ret
  exact ⟨rfl,(Below.refl _ _).alloc (Nat.le_refl _) _⟩
 ·have d1:decide (b<8)=false:=by simpa using h1
  by_cases h2:256<b
  ·have d2:decide (256<b)=true:=by simpa using h2
   go_enter Tryz.func140,Tryz.ntmps140
   go_wp2
   go_ret
   exact ⟨rfl,(Below.refl _ _).alloc (Nat.le_refl _) _⟩
  ·have d2:decide (256<b)=false:=by simpa using h2
   by_cases h3:h<0
   ·have d3:decide (h<0)=true:=by simpa using h3
    go_enter Tryz.func140,Tryz.ntmps140
    go_wp2
    go_ret
    exact ⟨rfl,(Below.refl _ _).alloc (Nat.le_refl _) _⟩
   ·have d3:decide (h<0)=false:=by simpa using h3
    have h4:6<h:=by have:=HK.out;omega
    have d4:decide (6<h)=true:=by simpa using h4
    go_enter Tryz.func140,Tryz.ntmps140
    go_wp2
    go_ret
    exact ⟨rfl,(Below.refl _ _).alloc (Nat.le_refl _) _⟩
theorem kqm (b h:Int) (w:World) (hk:ket b h=true):kcy 80 #[.agg #[.int .i64 b,.int .i64 h]] w (.int .i64 0):=by
 have hk':8≤b∧b≤256∧0≤h∧h≤6:=by simpa [ket] using hk
 obtain ⟨h1,h2,h3,h4⟩:=hk';have d1:decide (b<8)=false:=by simp;omega
 have d2:decide (256<b)=false:=by simp;omega
 have d3:decide (h<0)=false:=by simp;omega
 have d4:decide (6<h)=false:=by simp;omega
 clear hk
 go_enter Tryz.func80,Tryz.ntmps80
 go_wp2
 go_ret
 exact ⟨rfl,(Below.refl _ _).alloc (Nat.le_refl _) _⟩
theorem ktu (b h:Int) (w:World) (hk:ket b h=false):kcy 80 #[.agg #[.int .i64 b,.int .i64 h]] w (.int .i64 3):=by
 have hk':¬ (8≤b∧b≤256∧0≤h∧h≤6):=by simpa [ket] using hk
 have HK:=hdd hk';clear hk hk'
 by_cases h1:b<8
 ·have d1:decide (b<8)=true:=by simpa using h1
  go_enter Tryz.func80,Tryz.ntmps80
  go_wp2
  go_ret
  exact ⟨rfl,(Below.refl _ _).alloc (Nat.le_refl _) _⟩
 ·have d1:decide (b<8)=false:=by simpa using h1
  by_cases h2:256<b
  ·have d2:decide (256<b)=true:=by simpa using h2
   go_enter Tryz.func80,Tryz.ntmps80
   go_wp2
   go_ret
   exact ⟨rfl,(Below.refl _ _).alloc (Nat.le_refl _) _⟩
  ·have d2:decide (256<b)=false:=by simpa using h2
   by_cases h3:h<0
   ·have d3:decide (h<0)=true:=by simpa using h3
    go_enter Tryz.func80,Tryz.ntmps80
    go_wp2
    go_ret
    exact ⟨rfl,(Below.refl _ _).alloc (Nat.le_refl _) _⟩
   ·have d3:decide (h<0)=false:=by simpa using h3
    have h4:6<h:=by have:=HK.out;omega
    have d4:decide (6<h)=true:=by simpa using h4
    go_enter Tryz.func80,Tryz.ntmps80
    go_wp2
    go_ret
    exact ⟨rfl,(Below.refl _ _).alloc (Nat.le_refl _) _⟩
theorem kfo (x:Bs) (w:World):Calls Tryz.prog 160 #[.string (B x)] w fun e w'=>e = .returned (.bool (Rv.digB x))∧w=w':=(kbz x w).mono fun _ _ h=>⟨h.1,h.2.symm⟩
theorem kwz (x:Bs) (w:World) (h:x.length≤maxLen):Calls Tryz.prog 91 #[.string (B x)] w fun e w'=>e = .returned (.bool (Rv.nameB x))∧w=w':=(k0k x w h).mono fun _ _ h=>⟨h.1,h.2.symm⟩
def kb1 (e:Rv.Ev):Rv.Ev :=
 if e.kind=1 then { e with root:=[],bits:=0,height:=0 }
 else if e.kind=2 then { e with pkg:=[],digest:=[] }
 else if e.kind=3 then { e with question:=[],scope:=[],answer:=[],digest:=[],till:=0 }
 else if e.kind=4 then { e with targets:=[] }
 else if e.kind=5 then { e with targets:=[] }
 else e
def kc5 (k:Int) (vt:Value):Value:=if k=4∨k=5 then .slice none 0 0 else vt
def okF (e:Rv.Ev):Bool:=Rv.kindB e && (decide (e.kind=1) || (decide (1≤e.number) && decide (0<e.names.length)))
abbrev evC (e:Rv.Ev) (vn vt vs vh vr:Value):Array Value:=#[.int .i64 e.kind,.string (B e.author),.int .i64 e.number,vn,.string (B e.root),.int .i64 e.bits,.int .i64 e.height,.string (B e.pkg),.string (B e.digest),.string (B e.question),.string (B e.scope),.string (B e.answer),.int .i64 e.till,vt,.int .i64 e.sg.i,vs,vh,vr]
def kee (w:World) (e':Rv.Ev) (vn vt vs vh vr:Value) (ok:Bool) (en:Ending) (w':World):Prop:=en = .returned (.tuple #[.agg (evC e' vn vt vs vh vr),.bool ok])∧Below w.heap.size w w'
theorem kbe (e:Rv.Ev) (vn vt vs vh vr:Value) (h0:vn.oneCell'=true) (h1:vt.oneCell'=true) (h2:vs.oneCell'=true) (h3:vh.oneCell'=true) (h4:vr.oneCell'=true):(evC e vn vt vs vh vr).all (·.oneCell')=true:=by
 simp only [evC,List.all_toArray,List.all_cons,List.all_nil,h0,h1,h2,h3,h4];rfl
abbrev evS (e:Rv.Ev) (a1:Option Addr) (n1:Nat) (a2:Option Addr) (n2:Nat) (a3:Option Addr) (n3:Nat) (a4:Option Addr) (n4:Nat) (a5:Option Addr) (n5:Nat):Array Value:=evC e (.slice a1 e.names.length n1) (.slice a2 e.targets.length n2) (.slice a3 e.sg.S.length n3) (.slice a4 e.sg.H.length n4) (.slice a5 e.sg.R.length n5)
abbrev evW (e:Rv.Ev) (a1:Option Addr) (n1:Nat) (a2:Option Addr) (n2:Nat) (a3:Option Addr) (n3:Nat) (a4:Option Addr) (n4:Nat) (a5:Option Addr) (n5:Nat):Value:=.agg (evS e a1 n1 a2 n2 a3 n3 a4 n4 a5 n5)
theorem evS1 (e:Rv.Ev) (a1:Option Addr) (n1:Nat) (a2:Option Addr) (n2:Nat) (a3:Option Addr) (n3:Nat) (a4:Option Addr) (n4:Nat) (a5:Option Addr) (n5:Nat):(evS e a1 n1 a2 n2 a3 n3 a4 n4 a5 n5).all (·.oneCell')=true:=kbe e _ _ _ _ _ rfl rfl rfl rfl rfl
abbrev evZ:Array Value:=evC Rv.ev0 (.slice none 0 0) (.slice none 0 0) (.slice none 0 0) (.slice none 0 0) (.slice none 0 0)
theorem ka3 {W:World} {b:Nat} {e:Rv.Ev} {vn vt vs vh vr:Value} {T:TypeId} {fr:Nat × Nat} (h:W.heap[b]? = some (.cells (evC e vn vt vs vh vr) T fr)) :
 W.cell? ⟨b,0,none⟩=some (.int .i64 e.kind)∧W.cell? ⟨b,1,none⟩=some (.string (B e.author))∧W.cell? ⟨b,2,none⟩=some (.int .i64 e.number)∧W.cell? ⟨b,3,none⟩=some vn∧W.cell? ⟨b,4,none⟩=some (.string (B e.root)) ∧
 W.cell? ⟨b,5,none⟩=some (.int .i64 e.bits)∧W.cell? ⟨b,6,none⟩=some (.int .i64 e.height)∧W.cell? ⟨b,7,none⟩=some (.string (B e.pkg))∧W.cell? ⟨b,8,none⟩=some (.string (B e.digest))∧W.cell? ⟨b,9,none⟩=some (.string (B e.question)) ∧
 W.cell? ⟨b,10,none⟩=some (.string (B e.scope))∧W.cell? ⟨b,11,none⟩=some (.string (B e.answer))∧W.cell? ⟨b,12,none⟩=some (.int .i64 e.till)∧W.cell? ⟨b,13,none⟩=some vt∧W.cell? ⟨b,14,none⟩=some (.int .i64 e.sg.i) ∧
 W.cell? ⟨b,15,none⟩=some vs∧W.cell? ⟨b,16,none⟩=some vh∧W.cell? ⟨b,17,none⟩=some vr:=by
 refine ⟨?_,?_,?_,?_,?_,?_,?_,?_,?_,?_,?_,?_,?_,?_,?_,?_,?_,?_⟩ <;> (rw [kaa h];rfl)
theorem kbq {o:Oper} {ev:Operand→Value} {x:Operand} (ho:o.op = .load 45 x) {W:World} {b:Nat} {A:Array Value} (hA:A.size=18) (hx:ev x = .pointer (some ⟨b,0,none⟩)) (h:W.heap[b]? = some (.cells A 45 (0,0))) :
 (execOp ev o).run Tryz.prog W = .ok (.value (.agg A)) W:=by
 have hr:=run_loadVar_row (P:=Tryz.prog) W b 45 45 A (0,0) _ h Tryz.underlying45 rfl (by rw [hA];kernel_rfl);unfold execOp;simp only [ho,hx,Instr.loadAt,Instr.sureAddr,Sem.run_bind,Sem.run_pure,Result.andThen_ok,hr]
theorem kbk {S:Nat→Prop} {w w':World} (h:ka7 S w.drew w'):ka7 S w w':=⟨h.os,h.tape,h.output,h.size,h.block⟩
theorem kto {S:Nat→Prop} {w w':World} {n:Nat} (h:ka7 S (w.drewN n) w'):ka7 S w w':=⟨h.os,h.tape,h.output,h.size,h.block⟩
theorem kko {W:World} {b:Nat} {T:TypeId} (h:W.heap[b]? = some (.cells evZ T (0,0))):∃old:Array Value,W.heap[b]? = some (.cells old T (0,0))∧old.size=18:=⟨evZ,h,rfl⟩
theorem kmg (e:Rv.Ev) (na ta sa ha ra:Option Addr) (nc tc sc hc rc:Nat) (w:World) (h1:e.kind≠1) (h2:e.kind≠2) (h3:e.kind≠3) (h4:e.kind≠4) (h5:e.kind≠5):
 Calls Tryz.prog 90 #[evW e na nc ta tc sa sc ha hc ra rc] w (kee w (kb1 e) (.slice na e.names.length nc) (kc5 e.kind (.slice ta e.targets.length tc)) (.slice sa e.sg.S.length sc) (.slice ha e.sg.H.length hc) (.slice ra e.sg.R.length rc) (okF e)):=by
 have hre:kb1 e=e:=by unfold kb1;simp [h1,h2,h3,h4,h5]
 have hte:kc5 e.kind (.slice ta e.targets.length tc) = .slice ta e.targets.length tc:=by unfold kc5;simp [h4,h5]
 have ho:okF e=false:=by unfold okF Rv.kindB;simp [h1,h2,h3,h4,h5]
 rw [hre,hte,ho];clear hre hte ho;have d1:(e.kind == 1)=false:=by simpa using h1
 have d2:(e.kind == 2)=false:=by simpa using h2
 have d3:(e.kind == 3)=false:=by simpa using h3
 have d4:(e.kind == 4)=false:=by simpa using h4
 have d5:(e.kind == 5)=false:=by simpa using h5
 clear h1 h2 h3 h4 h5;obtain ⟨sk3,-⟩:∃_:Nat,True:=⟨0,trivial⟩
 all_goals (
  have hb3:Below w.heap.size w (((w.alloc (.cells (evS e na nc ta tc sa sc ha hc ra rc) 45)).alloc (.cells evZ 45)).alloc (.cells evZ 45)):=(((Below.refl _ _).alloc (Nat.le_refl _) _).alloc (by simp) _).alloc (by simp;omega) _;have HB3:=hdd hb3;clear hb3;have HE:=hdd (show ((w.alloc (.cells (evS e na nc ta tc sa sc ha hc ra rc) 45)).alloc (.cells evZ 45)).heap[w.heap.size]? = _ from kah (kai w (.cells (evS e na nc ta tc sa sc ha hc ra rc) 45)));have HO:=hdd (evS1 e na nc ta tc sa sc ha hc ra rc)
  go_enter Tryz.func90,Tryz.ntmps90
  go_upto_region 2 with (first
   |(refine wpList_load_row rfl 45 _ rfl w.heap.size rfl 45 (evS e na nc ta tc sa sc ha hc ra rc) (0,0) _ HE.out rfl rfl (by kernel_rfl) ?_)
   |(refine kac rfl 45 _ _ rfl (w.heap.size+1+1) rfl (evS e na nc ta tc sa sc ha hc ra rc) rfl 45 evZ (kak (by simp) rfl) (by kernel_rfl) rfl HO.out ?_
     intro w1 hw4 hk1;have HB1:=hdd (HB3.out.trans (hk1.below (B:=w.heap.size) (by simp;omega) (fun k hk e=>by have:k=_:=e;omega)));have hw1:w1.heap[w.heap.size]? = some (.cells (evS e na nc ta tc sa sc ha hc ra rc) 45 (0,0)):=(hk1.block _ (by simp;omega) (fun e=>by have:w.heap.size=_:=e;omega)).trans (kah HE.out);have hw2:w1.heap[w.heap.size+1]? = some (.cells evZ 45 (0,0)):=(hk1.block _ (by simp) (fun e=>by have:w.heap.size+1=_:=e;omega)).trans (kah (kak (by simp) rfl));obtain ⟨e0,e1,e2,e3,e4,e5,e6,e7,e8,e9,e10,e11,e12,e13,e14,e15,e16,e17⟩:=ka3 hw1;obtain ⟨r0,r1,r2,r3,r4,r5,r6,r7,r8,r9,r10,r11,r12,r13,r14,r15,r16,r17⟩:=ka3 hw4;have rf:=kbm hw4;have HW1:=hdd hw1;have HW2:=hdd hw2;have HW4:=hdd hw4;clear hw1 hw2 hw4 hk1))
  have HC:=hdd HW4.out;have HK:=hdd (ka7.refl (Licit.One (w.heap.size+1+1)) w1)
  go_upto_region 18 with (first|(refine kae rfl _ _ _ rfl (w.heap.size+1+1) _ rfl _ rfl rfl rfl _ 45 HC.out (by simp) (by kernel_rfl) ?_;intro wz hwz hkz;have HCn:=hdd hwz;have HKn:=hdd (HK.out.trans hkz);clear hwz hkz HC HK;have HC:=HCn;have HK:=HKn;clear HCn HKn;obtain ⟨e0,-,e2,e3,-⟩:=ka3 ((HK.out.block _ (kad HW1.out) (fun e=>by have:w.heap.size=w.heap.size+1+1:=e;omega)).trans HW1.out))|(refine kaz rfl _ _ _ rfl (w.heap.size+1+1) _ #[.int .i64 0,.int .i64 0] rfl rfl _ 45 HC.out (by simp) (by kernel_rfl) rfl ?_;intro wz hwz hkz;have HCn:=hdd hwz;have HKn:=hdd (HK.out.trans hkz);clear hwz hkz HC HK;have HC:=HCn;have HK:=HKn;clear HCn HKn)|fail)
  clear e0 e1 e2 e3 e4 e5 e6 e7 e8 e9 e10 e11 e12 e13 e14 e15 e16 e17 r0 r1 r2 r3 r4 r5 r6 r7 r8 r9 r10 r11 r12 r13 r14 r15 r16 r17 rf;have hB1':=HB1.out.trans (HK.out.below (B:=w.heap.size) HB1.out.size (fun k hk e=>by have:k=w.heap.size+1+1:=e;omega));have hX1:=(HK.out.block _ (kad HW1.out) (fun e=>by have:w.heap.size=w.heap.size+1+1:=e;omega)).trans HW1.out;have hR:=HC.out.trans (show _=some (Obj.cells (evS e na nc ta tc sa sc ha hc ra rc) 45 (0,0)) by kernel_rfl);have hZ:=(HK.out.block _ (kad HW2.out) (fun e=>by have:w.heap.size+1=w.heap.size+1+1:=e;omega)).trans HW2.out;clear HC HK;obtain ⟨e0',-,e2',e3',-⟩:=ka3 hX1;have HOR:=hdd (evS1 e na nc ta tc sa sc ha hc ra rc);have HB1':=hdd hB1';have HS:=hdd (And.intro (And.intro e0' (And.intro e2' e3')) (And.intro hR (kko hZ)));clear hB1' hX1 hR hZ e0' e2' e3';refine kaj (S:=fun W:World=>(W.cell? ⟨w.heap.size,0,none⟩=some (.int .i64 e.kind)∧W.cell? ⟨w.heap.size,2,none⟩=some (.int .i64 e.number)∧W.cell? ⟨w.heap.size,3,none⟩=some (.slice na e.names.length nc))∧W.heap[w.heap.size+1+1]? = some (.cells (evS e na nc ta tc sa sc ha hc ra rc) 45 (0,0))∧∃old,W.heap[w.heap.size+1]? = some (.cells old 45 (0,0))∧old.size=18) (by kernel_rfl) HS.out (fun hHeld=>?_);simp only [List.toList_toArray,len,kat];refine tkx 0 (.agg (evS e na nc ta tc sa sc ha hc ra rc)) rfl rfl (by kernel_rfl) (fun _ _ _ h=>h) (by assumption) ?_ ?_
  ·intro W hW;exact kbq rfl rfl rfl hW.2.1
  simp only [Act.put,s1,s2,s3]
  (iterate 2 (refine tz 1 ?_;simp only [Act.put,s1,s2,s3]))
  first
   |(clear sk3;(iterate 14 (refine ps 3 rfl rfl rfl (by kernel_rfl) (fun _ _ _ h=>h) (by assumption) ?_;simp only [Act.put,s1,s2,s3])))
   |(clear sk11;(iterate 8 (refine tz 3 ?_;simp only [Act.put,s1,s2,s3]));(iterate 4 (refine ps 11 rfl rfl rfl (by kernel_rfl) (fun _ _ _ h=>h) (by assumption) ?_;simp only [Act.put,s1,s2,s3]));(iterate 2 (refine tz 15 ?_;simp only [Act.put,s1,s2,s3])))
   |(clear sk7;(iterate 4 (refine tz 3 ?_;simp only [Act.put,s1,s2,s3]));(iterate 9 (refine ps 7 rfl rfl rfl (by kernel_rfl) (fun _ _ _ h=>h) (by assumption) ?_;simp only [Act.put,s1,s2,s3]));(refine tz 16 ?_;simp only [Act.put,s1,s2,s3]))
   |((iterate 14 (refine tz 3 ?_;simp only [Act.put,s1,s2,s3])))
  (refine tz 17 ?_;simp only [Act.put,s1,s2,s3])
  refine ar2 18 (by kernel_rfl) rfl (fun K hK=>?_);obtain ⟨⟨q0,q2,q3⟩,q4,old,q5,q6⟩:=hHeld;refine kam rfl 45 _ _ rfl (w.heap.size+1) rfl (evS e na nc ta tc sa sc ha hc ra rc) rfl 45 old q5 (by kernel_rfl) q6 HOR.out ?_;intro w2 hw2 hk2;have hne1:¬ Licit.One (w.heap.size+1) w.heap.size:=fun e=>by have:w.heap.size=w.heap.size+1:=e;omega
  have hne2:¬ Licit.One (w.heap.size+1) (w.heap.size+1+1):=fun e=>by have:w.heap.size+1+1=w.heap.size+1:=e;omega
  refine hK.out _ _ ⟨⟨(hk2.cell (World.block_lt_of_cell? _ _ q0) hne1).trans q0,(hk2.cell (World.block_lt_of_cell? _ _ q0) hne1).trans q2,(hk2.cell (World.block_lt_of_cell? _ _ q0) hne1).trans q3⟩,(hk2.block _ (kad q4) hne2).trans q4,_,hw2,rfl⟩ (fun hHeld=>?_);have HW:=hdd hw2;have HB:=hdd (HB1'.out.trans ((kbk hk2).below (B:=w.heap.size) HB1'.out.size (fun k hk e=>by have:k=_:=e;omega)));clear hK K hw2 hk2 q0 q2 q3 q4 q5 q6 hne1 hne2
  try simp only [Act.put,s1,s2,s3]
  (refine tz 19 ?_;simp only [Act.put,s1,s2,s3])
  refine wpAnyH_done (by kernel_rfl) ?_ _;simp only [Exit.then]
  go_wp2
  refine kbs rfl (w.heap.size+1) 45 _ (0,0) _ rfl HW.out rfl rfl (by kernel_rfl) rfl ?_;exact ⟨rfl,HB.out⟩
 )
theorem km1 (e:Rv.Ev) (na ta sa ha ra:Option Addr) (nc tc sc hc rc:Nat) (w:World) (hk:e.kind=1) :
 Calls Tryz.prog 90 #[evW e na nc ta tc sa sc ha hc ra rc] w (kee w (kb1 e) (.slice na e.names.length nc) (kc5 e.kind (.slice ta e.targets.length tc)) (.slice sa e.sg.S.length sc) (.slice ha e.sg.H.length hc) (.slice ra e.sg.R.length rc) (okF e)):=by
 have hre:kb1 e = { e with root:=[],bits:=0,height:=0 }:=by unfold kb1;rw [if_pos hk]
 have hte:kc5 e.kind (.slice ta e.targets.length tc) = .slice ta e.targets.length tc:=by unfold kc5;rw [hk];rfl
 have ho:okF e=(decide (e.number=0) && Rv.digB e.root && ket e.bits e.height):=by unfold okF Rv.kindB;simp [hk]
 rw [hre,hte,ho];clear hre hte ho;have d1:(e.kind == 1)=true:=by simpa using hk
 have k1:decide (e.kind=1)=true:=decide_eq_true hk;have q:=fun W=>kfo e.root W
 have q2:∃F:Int,((ket e.bits e.height=true∧F=0)∨(ket e.bits e.height=false∧F=3))∧∀W,Calls Tryz.prog 140 #[.agg #[.int .i64 e.bits,.int .i64 e.height]] W fun en w'=>en = .returned (.int .i64 F)∧Below W.heap.size W w':=by
  cases c3:ket e.bits e.height with
  |true=>exact ⟨0,.inl ⟨rfl,rfl⟩,fun W=>ksz e.bits e.height W c3⟩
  |false=>exact ⟨3,.inr ⟨rfl,rfl⟩,fun W=>kvj e.bits e.height W c3⟩
 obtain ⟨F,hF,q2⟩:=q2;clear hk;have dn:(e.number == 0)=decide (e.number=0):=by by_cases c:e.number=0 <;> simp [c]
 generalize decide (e.number=0)=R0 at *;generalize Rv.digB e.root=R1 at *;generalize ket e.bits e.height=R2 at *
 have hc:((R0=false∧(∃_:Nat,True))∨(R0=true∧R1=false∧(∃_:Nat,True)))∨(R0=true∧R1=true∧R2=true∧F=0∧(∃_:Nat,True))∨(R0=true∧R1=true∧R2=false∧F=3∧(∃_:Nat,True)):=by
  rcases hF with ⟨rfl,rfl⟩|⟨rfl,rfl⟩ <;> cases R0 <;> cases R1 <;> simp
 clear hF;rcases hc with hc|hc
 ·rcases hc with ⟨rfl,sk3,-⟩|⟨rfl,rfl,sk3,-⟩
  all_goals (
   have hb3:Below w.heap.size w (((w.alloc (.cells (evS e na nc ta tc sa sc ha hc ra rc) 45)).alloc (.cells evZ 45)).alloc (.cells evZ 45)):=(((Below.refl _ _).alloc (Nat.le_refl _) _).alloc (by simp) _).alloc (by simp;omega) _;have HB3:=hdd hb3;clear hb3;have HE:=hdd (show ((w.alloc (.cells (evS e na nc ta tc sa sc ha hc ra rc) 45)).alloc (.cells evZ 45)).heap[w.heap.size]? = _ from kah (kai w (.cells (evS e na nc ta tc sa sc ha hc ra rc) 45)));have HO:=hdd (evS1 e na nc ta tc sa sc ha hc ra rc)
   go_enter Tryz.func90,Tryz.ntmps90
   go_upto_region 2 with (first
    |(refine wpList_load_row rfl 45 _ rfl w.heap.size rfl 45 (evS e na nc ta tc sa sc ha hc ra rc) (0,0) _ HE.out rfl rfl (by kernel_rfl) ?_)
    |(refine kac rfl 45 _ _ rfl (w.heap.size+1+1) rfl (evS e na nc ta tc sa sc ha hc ra rc) rfl 45 evZ (kak (by simp) rfl) (by kernel_rfl) rfl HO.out ?_
      intro w1 hw4 hk1;have HB1:=hdd (HB3.out.trans (hk1.below (B:=w.heap.size) (by simp;omega) (fun k hk e=>by have:k=_:=e;omega)));have hw1:w1.heap[w.heap.size]? = some (.cells (evS e na nc ta tc sa sc ha hc ra rc) 45 (0,0)):=(hk1.block _ (by simp;omega) (fun e=>by have:w.heap.size=_:=e;omega)).trans (kah HE.out);have hw2:w1.heap[w.heap.size+1]? = some (.cells evZ 45 (0,0)):=(hk1.block _ (by simp) (fun e=>by have:w.heap.size+1=_:=e;omega)).trans (kah (kak (by simp) rfl));obtain ⟨e0,e1,e2,e3,e4,e5,e6,e7,e8,e9,e10,e11,e12,e13,e14,e15,e16,e17⟩:=ka3 hw1;obtain ⟨r0,r1,r2,r3,r4,r5,r6,r7,r8,r9,r10,r11,r12,r13,r14,r15,r16,r17⟩:=ka3 hw4;have rf:=kbm hw4;have HW1:=hdd hw1;have HW2:=hdd hw2;have HW4:=hdd hw4;clear hw1 hw2 hw4 hk1))
   go_upto_region 18 with (first|(go_at_call 160;(with_reducible refine (q _).mono ?_);rintro en w' ⟨rfl,rfl⟩)|fail)
   have HC:=hdd (set_of (set_of (set_of HW4.out 4 (.string ⟨#[]⟩)) 5 (.int .i64 0)) 6 (.int .i64 0));have HK:=hdd (((kdp (w.heap.size+1+1) 4 w1 (.string ⟨#[]⟩)).trans (kdp (w.heap.size+1+1) 5 _ (.int .i64 0))).trans (kdp (w.heap.size+1+1) 6 _ (.int .i64 0)));clear e0 e1 e2 e3 e4 e5 e6 e7 e8 e9 e10 e11 e12 e13 e14 e15 e16 e17 r0 r1 r2 r3 r4 r5 r6 r7 r8 r9 r10 r11 r12 r13 r14 r15 r16 r17 rf;have hB1':=HB1.out.trans (HK.out.below (B:=w.heap.size) HB1.out.size (fun k hk e=>by have:k=w.heap.size+1+1:=e;omega));have hX1:=(HK.out.block _ (kad HW1.out) (fun e=>by have:w.heap.size=w.heap.size+1+1:=e;omega)).trans HW1.out;have hR:=HC.out.trans (show _=some (Obj.cells (evC { e with root:=[],bits:=0,height:=0 } (.slice na e.names.length nc) (.slice ta e.targets.length tc) (.slice sa e.sg.S.length sc) (.slice ha e.sg.H.length hc) (.slice ra e.sg.R.length rc)) 45 (0,0)) by kernel_rfl);have hZ:=(HK.out.block _ (kad HW2.out) (fun e=>by have:w.heap.size+1=w.heap.size+1+1:=e;omega)).trans HW2.out;clear HC HK;obtain ⟨e0',-,e2',e3',-⟩:=ka3 hX1;have HOR:=hdd (kbe { e with root:=[],bits:=0,height:=0 } (.slice na e.names.length nc) (.slice ta e.targets.length tc) (.slice sa e.sg.S.length sc) (.slice ha e.sg.H.length hc) (.slice ra e.sg.R.length rc) rfl rfl rfl rfl rfl);have HB1':=hdd hB1';have HS:=hdd (And.intro (And.intro e0' (And.intro e2' e3')) (And.intro hR (kko hZ)));clear hB1' hX1 hR hZ e0' e2' e3';refine kaj (S:=fun W:World=>(W.cell? ⟨w.heap.size,0,none⟩=some (.int .i64 e.kind)∧W.cell? ⟨w.heap.size,2,none⟩=some (.int .i64 e.number)∧W.cell? ⟨w.heap.size,3,none⟩=some (.slice na e.names.length nc))∧W.heap[w.heap.size+1+1]? = some (.cells (evC { e with root:=[],bits:=0,height:=0 } (.slice na e.names.length nc) (.slice ta e.targets.length tc) (.slice sa e.sg.S.length sc) (.slice ha e.sg.H.length hc) (.slice ra e.sg.R.length rc)) 45 (0,0))∧∃old,W.heap[w.heap.size+1]? = some (.cells old 45 (0,0))∧old.size=18) (by kernel_rfl) HS.out (fun hHeld=>?_);simp only [List.toList_toArray,len,kat];refine tkx 0 (.agg (evC { e with root:=[],bits:=0,height:=0 } (.slice na e.names.length nc) (.slice ta e.targets.length tc) (.slice sa e.sg.S.length sc) (.slice ha e.sg.H.length hc) (.slice ra e.sg.R.length rc))) rfl rfl (by kernel_rfl) (fun _ _ _ h=>h) (by assumption) ?_ ?_
   ·intro W hW;exact kbq rfl rfl rfl hW.2.1
   simp only [Act.put,s1,s2,s3]
   (iterate 2 (refine tz 1 ?_;simp only [Act.put,s1,s2,s3]))
   first
    |(clear sk3;(iterate 14 (refine ps 3 rfl rfl rfl (by kernel_rfl) (fun _ _ _ h=>h) (by assumption) ?_;simp only [Act.put,s1,s2,s3])))
    |(clear sk11;(iterate 8 (refine tz 3 ?_;simp only [Act.put,s1,s2,s3]));(iterate 4 (refine ps 11 rfl rfl rfl (by kernel_rfl) (fun _ _ _ h=>h) (by assumption) ?_;simp only [Act.put,s1,s2,s3]));(iterate 2 (refine tz 15 ?_;simp only [Act.put,s1,s2,s3])))
    |(clear sk7;(iterate 4 (refine tz 3 ?_;simp only [Act.put,s1,s2,s3]));(iterate 9 (refine ps 7 rfl rfl rfl (by kernel_rfl) (fun _ _ _ h=>h) (by assumption) ?_;simp only [Act.put,s1,s2,s3]));(refine tz 16 ?_;simp only [Act.put,s1,s2,s3]))
    |((iterate 14 (refine tz 3 ?_;simp only [Act.put,s1,s2,s3])))
   (refine tz 17 ?_;simp only [Act.put,s1,s2,s3])
   refine ar2 18 (by kernel_rfl) rfl (fun K hK=>?_);obtain ⟨⟨q0,q2,q3⟩,q4,old,q5,q6⟩:=hHeld;refine kam rfl 45 _ _ rfl (w.heap.size+1) rfl (evC { e with root:=[],bits:=0,height:=0 } (.slice na e.names.length nc) (.slice ta e.targets.length tc) (.slice sa e.sg.S.length sc) (.slice ha e.sg.H.length hc) (.slice ra e.sg.R.length rc)) rfl 45 old q5 (by kernel_rfl) q6 HOR.out ?_;intro w2 hw2 hk2;have hne1:¬ Licit.One (w.heap.size+1) w.heap.size:=fun e=>by have:w.heap.size=w.heap.size+1:=e;omega
   have hne2:¬ Licit.One (w.heap.size+1) (w.heap.size+1+1):=fun e=>by have:w.heap.size+1+1=w.heap.size+1:=e;omega
   refine hK.out _ _ ⟨⟨(hk2.cell (World.block_lt_of_cell? _ _ q0) hne1).trans q0,(hk2.cell (World.block_lt_of_cell? _ _ q0) hne1).trans q2,(hk2.cell (World.block_lt_of_cell? _ _ q0) hne1).trans q3⟩,(hk2.block _ (kad q4) hne2).trans q4,_,hw2,rfl⟩ (fun hHeld=>?_);have HW:=hdd hw2;have HB:=hdd (HB1'.out.trans ((kbk hk2).below (B:=w.heap.size) HB1'.out.size (fun k hk e=>by have:k=_:=e;omega)));clear hK K hw2 hk2 q0 q2 q3 q4 q5 q6 hne1 hne2
   try simp only [Act.put,s1,s2,s3]
   (refine tz 19 ?_;simp only [Act.put,s1,s2,s3])
   refine wpAnyH_done (by kernel_rfl) ?_ _;simp only [Exit.then]
   go_wp2
   refine kbs rfl (w.heap.size+1) 45 _ (0,0) _ rfl HW.out rfl rfl (by kernel_rfl) rfl ?_;exact ⟨rfl,HB.out⟩
  )
 ·rcases hc with ⟨rfl,rfl,rfl,rfl,sk7,-⟩|⟨rfl,rfl,rfl,rfl,sk3,-⟩
  all_goals (
   have hb3:Below w.heap.size w (((w.alloc (.cells (evS e na nc ta tc sa sc ha hc ra rc) 45)).alloc (.cells evZ 45)).alloc (.cells evZ 45)):=(((Below.refl _ _).alloc (Nat.le_refl _) _).alloc (by simp) _).alloc (by simp;omega) _;have HB3:=hdd hb3;clear hb3;have HE:=hdd (show ((w.alloc (.cells (evS e na nc ta tc sa sc ha hc ra rc) 45)).alloc (.cells evZ 45)).heap[w.heap.size]? = _ from kah (kai w (.cells (evS e na nc ta tc sa sc ha hc ra rc) 45)));have HO:=hdd (evS1 e na nc ta tc sa sc ha hc ra rc)
   go_enter Tryz.func90,Tryz.ntmps90
   go_upto_region 2 with (first
    |(refine wpList_load_row rfl 45 _ rfl w.heap.size rfl 45 (evS e na nc ta tc sa sc ha hc ra rc) (0,0) _ HE.out rfl rfl (by kernel_rfl) ?_)
    |(refine kac rfl 45 _ _ rfl (w.heap.size+1+1) rfl (evS e na nc ta tc sa sc ha hc ra rc) rfl 45 evZ (kak (by simp) rfl) (by kernel_rfl) rfl HO.out ?_
      intro w1 hw4 hk1;have HB1:=hdd (HB3.out.trans (hk1.below (B:=w.heap.size) (by simp;omega) (fun k hk e=>by have:k=_:=e;omega)));have hw1:w1.heap[w.heap.size]? = some (.cells (evS e na nc ta tc sa sc ha hc ra rc) 45 (0,0)):=(hk1.block _ (by simp;omega) (fun e=>by have:w.heap.size=_:=e;omega)).trans (kah HE.out);have hw2:w1.heap[w.heap.size+1]? = some (.cells evZ 45 (0,0)):=(hk1.block _ (by simp) (fun e=>by have:w.heap.size+1=_:=e;omega)).trans (kah (kak (by simp) rfl));obtain ⟨e0,e1,e2,e3,e4,e5,e6,e7,e8,e9,e10,e11,e12,e13,e14,e15,e16,e17⟩:=ka3 hw1;obtain ⟨r0,r1,r2,r3,r4,r5,r6,r7,r8,r9,r10,r11,r12,r13,r14,r15,r16,r17⟩:=ka3 hw4;have rf:=kbm hw4;have HW1:=hdd hw1;have HW2:=hdd hw2;have HW4:=hdd hw4;clear hw1 hw2 hw4 hk1))
   go_wp2_with (first|(go_at_call 160;(with_reducible refine (q _).mono ?_);rintro en w' ⟨rfl,rfl⟩)|fail)
   refine (q2 _).mono ?_;rintro en w2 ⟨rfl,hb⟩;have HBn:=hdd (HB1.out.next hb);have HWa:=bhh hb HW1;have HWb:=bhh hb HW2;have HWc:=bhh hb HW4;clear e0 e1 e2 e3 e4 e5 e6 e7 e8 e9 e10 e11 e12 e13 e14 e15 e16 e17 r0 r1 r2 r3 r4 r5 r6 r7 r8 r9 r10 r11 r12 r13 r14 r15 r16 r17 rf hb HB1 HW1 HW2 HW4;have HB1:=HBn;have HW1:=HWa;have HW2:=HWb;have HW4:=HWc;clear HBn HWa HWb HWc;obtain ⟨e0,e1,e2,e3,e4,e5,e6,e7,e8,e9,e10,e11,e12,e13,e14,e15,e16,e17⟩:=ka3 HW1.out;obtain ⟨r0,r1,r2,r3,r4,r5,r6,r7,r8,r9,r10,r11,r12,r13,r14,r15,r16,r17⟩:=ka3 HW4.out;have rf:=kbm HW4.out
   go_upto_region 18 with fail
   have HC:=hdd (set_of (set_of (set_of HW4.out 4 (.string ⟨#[]⟩)) 5 (.int .i64 0)) 6 (.int .i64 0));have HK:=hdd (((kdp (w.heap.size+1+1) 4 w2 (.string ⟨#[]⟩)).trans (kdp (w.heap.size+1+1) 5 _ (.int .i64 0))).trans (kdp (w.heap.size+1+1) 6 _ (.int .i64 0)));clear e0 e1 e2 e3 e4 e5 e6 e7 e8 e9 e10 e11 e12 e13 e14 e15 e16 e17 r0 r1 r2 r3 r4 r5 r6 r7 r8 r9 r10 r11 r12 r13 r14 r15 r16 r17 rf;have hB1':=HB1.out.trans (HK.out.below (B:=w.heap.size) HB1.out.size (fun k hk e=>by have:k=w.heap.size+1+1:=e;omega));have hX1:=(HK.out.block _ (kad HW1.out) (fun e=>by have:w.heap.size=w.heap.size+1+1:=e;omega)).trans HW1.out;have hR:=HC.out.trans (show _=some (Obj.cells (evC { e with root:=[],bits:=0,height:=0 } (.slice na e.names.length nc) (.slice ta e.targets.length tc) (.slice sa e.sg.S.length sc) (.slice ha e.sg.H.length hc) (.slice ra e.sg.R.length rc)) 45 (0,0)) by kernel_rfl);have hZ:=(HK.out.block _ (kad HW2.out) (fun e=>by have:w.heap.size+1=w.heap.size+1+1:=e;omega)).trans HW2.out;clear HC HK;obtain ⟨e0',-,e2',e3',-⟩:=ka3 hX1;have HOR:=hdd (kbe { e with root:=[],bits:=0,height:=0 } (.slice na e.names.length nc) (.slice ta e.targets.length tc) (.slice sa e.sg.S.length sc) (.slice ha e.sg.H.length hc) (.slice ra e.sg.R.length rc) rfl rfl rfl rfl rfl);have HB1':=hdd hB1';have HS:=hdd (And.intro (And.intro e0' (And.intro e2' e3')) (And.intro hR (kko hZ)));clear hB1' hX1 hR hZ e0' e2' e3';refine kaj (S:=fun W:World=>(W.cell? ⟨w.heap.size,0,none⟩=some (.int .i64 e.kind)∧W.cell? ⟨w.heap.size,2,none⟩=some (.int .i64 e.number)∧W.cell? ⟨w.heap.size,3,none⟩=some (.slice na e.names.length nc))∧W.heap[w.heap.size+1+1]? = some (.cells (evC { e with root:=[],bits:=0,height:=0 } (.slice na e.names.length nc) (.slice ta e.targets.length tc) (.slice sa e.sg.S.length sc) (.slice ha e.sg.H.length hc) (.slice ra e.sg.R.length rc)) 45 (0,0))∧∃old,W.heap[w.heap.size+1]? = some (.cells old 45 (0,0))∧old.size=18) (by kernel_rfl) HS.out (fun hHeld=>?_);simp only [List.toList_toArray,len,kat];refine tkx 0 (.agg (evC { e with root:=[],bits:=0,height:=0 } (.slice na e.names.length nc) (.slice ta e.targets.length tc) (.slice sa e.sg.S.length sc) (.slice ha e.sg.H.length hc) (.slice ra e.sg.R.length rc))) rfl rfl (by kernel_rfl) (fun _ _ _ h=>h) (by assumption) ?_ ?_
   ·intro W hW;exact kbq rfl rfl rfl hW.2.1
   simp only [Act.put,s1,s2,s3]
   (iterate 2 (refine tz 1 ?_;simp only [Act.put,s1,s2,s3]))
   first
    |(clear sk3;(iterate 14 (refine ps 3 rfl rfl rfl (by kernel_rfl) (fun _ _ _ h=>h) (by assumption) ?_;simp only [Act.put,s1,s2,s3])))
    |(clear sk11;(iterate 8 (refine tz 3 ?_;simp only [Act.put,s1,s2,s3]));(iterate 4 (refine ps 11 rfl rfl rfl (by kernel_rfl) (fun _ _ _ h=>h) (by assumption) ?_;simp only [Act.put,s1,s2,s3]));(iterate 2 (refine tz 15 ?_;simp only [Act.put,s1,s2,s3])))
    |(clear sk7;(iterate 4 (refine tz 3 ?_;simp only [Act.put,s1,s2,s3]));(iterate 9 (refine ps 7 rfl rfl rfl (by kernel_rfl) (fun _ _ _ h=>h) (by assumption) ?_;simp only [Act.put,s1,s2,s3]));(refine tz 16 ?_;simp only [Act.put,s1,s2,s3]))
    |((iterate 14 (refine tz 3 ?_;simp only [Act.put,s1,s2,s3])))
   (refine tz 17 ?_;simp only [Act.put,s1,s2,s3])
   refine ar2 18 (by kernel_rfl) rfl (fun K hK=>?_);obtain ⟨⟨q0,q2,q3⟩,q4,old,q5,q6⟩:=hHeld;refine kam rfl 45 _ _ rfl (w.heap.size+1) rfl (evC { e with root:=[],bits:=0,height:=0 } (.slice na e.names.length nc) (.slice ta e.targets.length tc) (.slice sa e.sg.S.length sc) (.slice ha e.sg.H.length hc) (.slice ra e.sg.R.length rc)) rfl 45 old q5 (by kernel_rfl) q6 HOR.out ?_;intro w2 hw2 hk2;have hne1:¬ Licit.One (w.heap.size+1) w.heap.size:=fun e=>by have:w.heap.size=w.heap.size+1:=e;omega
   have hne2:¬ Licit.One (w.heap.size+1) (w.heap.size+1+1):=fun e=>by have:w.heap.size+1+1=w.heap.size+1:=e;omega
   refine hK.out _ _ ⟨⟨(hk2.cell (World.block_lt_of_cell? _ _ q0) hne1).trans q0,(hk2.cell (World.block_lt_of_cell? _ _ q0) hne1).trans q2,(hk2.cell (World.block_lt_of_cell? _ _ q0) hne1).trans q3⟩,(hk2.block _ (kad q4) hne2).trans q4,_,hw2,rfl⟩ (fun hHeld=>?_);have HW:=hdd hw2;have HB:=hdd (HB1'.out.trans ((kbk hk2).below (B:=w.heap.size) HB1'.out.size (fun k hk e=>by have:k=_:=e;omega)));clear hK K hw2 hk2 q0 q2 q3 q4 q5 q6 hne1 hne2
   try simp only [Act.put,s1,s2,s3]
   (refine tz 19 ?_;simp only [Act.put,s1,s2,s3])
   refine wpAnyH_done (by kernel_rfl) ?_ _;simp only [Exit.then]
   go_wp2
   refine kbs rfl (w.heap.size+1) 45 _ (0,0) _ rfl HW.out rfl rfl (by kernel_rfl) rfl ?_;exact ⟨rfl,HB.out⟩
  )
end Go.Proofs.YtknpbekoenbphaaGreatDoor
