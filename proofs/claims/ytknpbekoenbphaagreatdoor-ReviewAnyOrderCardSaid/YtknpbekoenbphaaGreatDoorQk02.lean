/- Parts of the proofs: PlainShaAll, PlainAll, PlainRv, Rd, WkTexts, WkRv1, ShaRot, ShaTab. No condition beyond those at each theorem. -/
import Derived.BigQuiet
import Derived.Deep.QuietTactic
import Derived.Laws.Bits64
import Derived.Laws.BitsAllLaws
import Derived.Lib.ItoaLen
import Derived.Lib.ItoaMem
import Derived.Test.YtknpbekoenbphaaGreatDoorProg
import Derived.Test.YtknpbekoenbphaaGreatDoorQk01
set_option linter.unusedVariables false
set_option linter.unusedSimpArgs false
set_option maxHeartbeats 16000000
set_option maxRecDepth 100000
namespace Licit.Sha
open Go
abbrev W64:=BitVec 64
abbrev St:=Nat→W64
def rot (w:W64) (n:Nat):W64:=(w <<< n) ||| (w >>> (64 - n))
def kz8:List Nat:=[0,1,62,28,27,36,44,6,55,20,3,10,43,25,39,41,45,15,21,8,18,2,61,56,14]
def off (i:Nat):Nat:=kz8.getD i 0
def cons:List Nat:=[1,32898,9223372036854808714,9223372039002292224,32907,2147483649,9223372039002292353,9223372036854808585,138,136,2147516425,2147483658,2147516555,9223372036854775947,9223372036854808713,9223372036854808579,9223372036854808578,9223372036854775936,32778,9223372039002259466,9223372039002292353,9223372036854808704,2147483649,9223372039002292232]
def con (i:Nat):W64:=BitVec.ofNat 64 (cons.getD i 0)
def upd (f:St) (i:Nat) (v:W64):St:=fun j=>if j=i then v else f j
def khw (s:St) (x:Nat):W64:=s x ^^^ s (x+5) ^^^ s (x+10) ^^^ s (x+15) ^^^ s (x+20)
def dif (s:St) (x:Nat):W64:=khw s ((x+4) % 5) ^^^ rot (khw s ((x+1) % 5)) 1
def kp2 (s:St) (i:Nat):W64:=rot (s i ^^^ dif s (i % 5)) (off i)
def src (p:Nat):Nat:=(3*(p / 5)+p % 5) % 5+5*(p % 5)
def mv (s:St) (p:Nat):W64:=kp2 s (src p)
def chi (t:St) (p:Nat):W64:=t p ^^^ (~~~ t (p - p % 5+(p+1) % 5) &&& t (p - p % 5+(p+2) % 5))
def rnd (s:St) (c:W64):St:=upd (chi (mv s)) 0 (chi (mv s) 0 ^^^ c)
def kmr (s:St):Nat→St
 |0=>s
 |k+1=>rnd (kmr s k) (con k)
def k1e (s:St):St:=kmr s 24
def khp (b:Nat→UInt8) (s:St):Nat→St
 |0=>s
 |k+1=>upd (khp b s k) (k / 8) (khp b s k (k / 8) ^^^ (BitVec.ofNat 64 (b k).toNat <<< (8*(k % 8))))
def kfd (s:St) (l:List UInt8):St:=k1e (khp (fun i=>l.getD i 0) s 136)
abbrev vW (x:W64):Value:=.int .u64 (x.toNat:Int)
def wA (n:Nat) (f:St):Array Value:=((List.range n).map (fun i=>vW (f i))).toArray
theorem kar (n:Nat) (f:St):(wA n f).size=n:=by simp [wA]
theorem kcn {n:Nat} (f:St) {i:Nat} (h:i<n):(wA n f)[i]? = some (vW (f i)):=by simp [wA,h]
theorem kzo {n:Nat} {f g:St} (h:∀i,i<n→f i=g i):wA n f=wA n g:=by
 unfold wA
 congr 1
 refine List.map_congr_left fun i hi=>?_
 rw [h i (List.mem_range.1 hi)]
theorem kwi {n:Nat} (f:St) {i:Nat} (v:W64):(wA n f).setIfInBounds i (vW v)=wA n (upd f i v):=by
 apply Array.ext_getElem?
 intro j
 by_cases hj:j<n
 ·rw [kcn _ hj,Array.getElem?_setIfInBounds,kar]
  unfold upd
  by_cases h:i=j
  ·subst h;simp [hj]
  ·have h':¬ j=i:=fun e=>h e.symm
   simp [h,h',kcn f hj]
 ·rw [Array.getElem?_eq_none (by rw [Array.size_setIfInBounds,kar];omega),Array.getElem?_eq_none (by rw [kar];omega)]
theorem k00 (x:W64):(x.toNat:Int)<18446744073709551616:=by have:=x.isLt;omega
theorem kmq (x y:W64):bits .xor .u64 (x.toNat:Int) (y.toNat:Int)=((x ^^^ y).toNat:Int):=by
 rw [u64_xor_nat _ _ x.isLt y.isLt,BitVec.toNat_xor]
theorem k02 (x y:W64):bits .and .u64 (x.toNat:Int) (y.toNat:Int)=((x &&& y).toNat:Int):=by
 rw [u64_and_nat _ _ x.isLt y.isLt,BitVec.toNat_and]
theorem bor (x y:W64):bits .or .u64 (x.toNat:Int) (y.toNat:Int)=((x ||| y).toNat:Int):=by
 rw [u64_or_nat _ _ x.isLt y.isLt,BitVec.toNat_or]
theorem k0r (x:W64) (n:Nat):IntKind.u64.wrap ((x.toNat:Int)*2 ^ n)=((x <<< n).toNat:Int):=by
 rw [IntKind.wrap_u64,BitVec.toNat_shiftLeft,Nat.shiftLeft_eq,Int.natCast_emod,Int.natCast_mul,Int.natCast_pow];rfl
theorem k0p (x:W64) (n:Nat):(x.toNat:Int) / 2 ^ n=((x >>> n).toNat:Int):=by
 rw [BitVec.toNat_ushiftRight,Nat.shiftRight_eq_div_pow,Int.natCast_ediv,Int.natCast_pow];rfl
theorem k01 (x:W64) (n:Nat):bits .or .u64 (IntKind.u64.wrap ((x.toNat:Int)*2 ^ n)) ((x.toNat:Int) / 2 ^ (64 - n))=((rot x n).toNat:Int):=by
 rw [k0r,k0p,bor];rfl
theorem k0z (x:W64):bits .xor .u64 IntKind.u64.max (x.toNat:Int)=((~~~ x).toNat:Int):=by
 have h:=kmq (BitVec.allOnes 64) x;rw [BitVec.allOnes_xor] at h;exact h
theorem ky2 (n:Nat) (h:n<64):bits .and .u64 (n:Int) 63=(n:Int):=by
 have:=u64_and_nat n 63 (by omega) (by omega)
 rw [show ((63:Nat):Int)=63 from rfl] at this;rw [this,show (63:Nat)=2 ^ 6 - 1 from rfl,Nat.and_two_pow_sub_one_eq_mod,Nat.mod_eq_of_lt (by omega)]
end Licit.Sha
namespace Licit.Sha
theorem kwu (i:Nat):off i<64:=by
 by_cases h:i<25
 ·have:∀i,i<25→off i<64:=by decide
  exact this i h
 ·unfold off
  rw [List.getD_eq_getElem?_getD,List.getElem?_eq_none (by simp [kz8];omega)]
  decide
def cK (s:St):Nat→St
 |0=>fun _=>0
 |k+1=>upd (cK s k) (k % 5) (cK s k (k % 5) ^^^ s k)
theorem kzk (s:St) (x:Nat) (h:x<5):cK s 25 x=khw s x:=by
 have h':x=0∨x=1∨x=2∨x=3∨x=4:=by omega
 rcases h' with rfl|rfl|rfl|rfl|rfl <;> simp [cK,upd,khw]
def dst (i:Nat):Nat:=i / 5+5*((2*(i % 5)+3*(i / 5)) % 5)
theorem kse (p:Nat):src p<25:=by unfold src;omega
theorem knp:∀i,i<25→src (dst i)=i:=by decide
theorem kw3:∀p,p<25→dst (src p)=p:=by decide
def mK (s:St) (i:Nat):St:=fun p=>if src p<i then mv s p else 0
theorem kxi (s:St):mK s 0=fun _=>0:=by funext p;simp [mK]
theorem kw7 (s:St) (i:Nat) (h:i<25):∀p,p<25→upd (mK s i) (dst i) (kp2 s i) p=mK s (i+1) p:=by
 intro p hp;unfold upd;split
 ·rename_i e
  subst e;simp [mK,knp i h,mv]
 ·rename_i e
  have hne:src p≠i:=fun c=>e (by rw [←c,kw3 p hp])
  unfold mK
  by_cases hlt:src p<i
  ·simp [hlt,show src p<i+1 by omega]
  ·simp [hlt,show ¬ src p<i+1 by omega]
theorem kzj (s:St) (p:Nat):mK s 25 p=mv s p:=by simp [mK,kse p]
def oK (t s:St) (i:Nat):St:=fun p=>if p<i then chi t p else s p
theorem kyi (t s:St):oK t s 0=s:=by funext p;simp [oK]
theorem kxt (t s:St) (i:Nat):upd (oK t s i) i (chi t i)=oK t s (i+1):=by
 funext p
 unfold upd oK
 by_cases h:p=i
 ·subst h;simp
 ·by_cases hlt:p<i
  ·simp [h,hlt,show p<i+1 by omega]
  ·simp [h,hlt,show ¬ p<i+1 by omega]
theorem kw0 (t s:St) (p:Nat) (h:p<25):oK t s 25 p=chi t p:=by simp [oK,h]
theorem kxw (s z:St) (c:W64):∀p,p<25→upd (oK (mv s) z 25) 0 (oK (mv s) z 25 0 ^^^ c) p=rnd s c p:=by
 intro p hp;unfold rnd upd;rw [kw0 _ _ 0 (by omega)];split
 ·rfl
 ·rw [kw0 _ _ p hp]
open Go in
theorem kd3 (n:Nat) (f:St):(wA n f).all (·.oneCell')=true:=by
 rw [Array.all_eq_true];intro i hi;rw [kar] at hi;have h:=kcn f hi;rw [Array.getElem?_eq_getElem (by rw [kar];exact hi)] at h;rw [Option.some.inj h];rfl
open Go in
theorem ked {w:World} {b n:Nat} {f:St} {T:TypeId} {fr:Nat × Nat} (h:w.heap[b]? = some (.cells (wA n f) T fr)) (i:Nat) (v:W64) :
 (w.setCell ⟨b,i,none⟩ (vW v)).heap[b]? = some (.cells (wA n (upd f i v)) T fr):=by
 rw [Licit.set_of h i (vW v),kwi]
open Go in
theorem kem {w:World} {b n:Nat} {f g:St} {T:TypeId} {fr:Nat × Nat} (h:w.heap[b]? = some (.cells (wA n f) T fr)) (e:∀i,i<n→f i=g i) :
 w.heap[b]? = some (.cells (wA n g) T fr):=by rw [←kzo e];exact h
end Licit.Sha
namespace Licit.Sha
open Licit
def sK (s:St) (k:Nat):St:=fun i=>if i<k then khw s i else 0
theorem kxq (s:St) (k:Nat):upd (sK s k) k (khw s k)=sK s (k+1):=by
 funext p
 unfold upd sK
 by_cases h:p=k
 ·subst h;simp
 ·by_cases h2:p<k
  ·simp [h,h2,show p<k+1 by omega]
  ·simp [h,h2,show ¬ p<k+1 by omega]
theorem kz3 (s:St) (i:Nat) (h:i<5):sK s 5 i=khw s i:=by simp [sK,h]
def ord (i:Nat):Nat:=5*(i % 5)+i / 5
def mR (s:St) (n:Nat):St:=fun p=>if ord (src p)<n then mv s p else 0
theorem kyj (s:St):mR s 0=fun _=>0:=by funext p;simp [mR]
theorem kxz:∀p,p<25→∀i,i<25→ord (src p)=ord i→p=dst i:=by decide
theorem kx2 (s:St) (x y:Nat) (hx:x<5) (hy:y<5):∀p,p<25→upd (mR s (5*x+y)) (dst (x+5*y)) (kp2 s (x+5*y)) p=mR s (5*x+(y+1)) p:=by
 intro p hp;have ho:ord (x+5*y)=5*x+y:=by unfold ord;omega
 unfold upd;split
 ·rename_i e
  subst e;rw [mR,knp _ (by omega),ho,if_pos (by omega),mv,knp _ (by omega)]
 ·rename_i e
  have hne:ord (src p)≠5*x+y:=fun c=>e (kxz p hp _ (by omega) (c.trans ho.symm))
  unfold mR
  by_cases hlt:ord (src p)<5*x+y
  ·rw [if_pos hlt,if_pos (by omega)]
  ·rw [if_neg hlt,if_neg (by omega)]
theorem kzy (s:St) (p:Nat):mR s 25 p=mv s p:=by
 unfold mR ord
 have:=kse p
 rw [if_pos (by omega)]
theorem kz1 (x y:Nat) (hx:x<5):dst (x+5*y)=y+5*((2*x+3*y) % 5):=by
 unfold dst;rw [show (x+5*y) / 5=y by omega,show (x+5*y) % 5=x by omega]
theorem kxs (s:St) (x y:Nat) (hx:x<5):kp2 s (x+5*y)=rot (s (x+5*y) ^^^ dif s x) (off (x+5*y)):=by
 unfold kp2;rw [show (x+5*y) % 5=x by omega]
def oR (t:St) (n:Nat):St:=fun p=>if ord p<n then chi t p else 0
theorem kxo (t:St):oR t 0=fun _=>0:=by funext p;simp [oR]
theorem kya (t:St) (x y:Nat) (hx:x<5) (hy:y<5):∀p,p<25→upd (oR t (5*x+y)) (x+5*y) (chi t (x+5*y)) p=oR t (5*x+(y+1)) p:=by
 intro p hp;have ho:ord (x+5*y)=5*x+y:=by unfold ord;omega
 unfold upd;split
 ·rename_i e
  subst e;rw [oR,ho,if_pos (by omega)]
 ·rename_i e
  have hne:ord p≠5*x+y:=fun c=>e (by unfold ord at c;omega)
  unfold oR
  by_cases hlt:ord p<5*x+y
  ·rw [if_pos hlt,if_pos (by omega)]
  ·rw [if_neg hlt,if_neg (by omega)]
theorem kwp (t:St) (p:Nat) (h:p<25):oR t 25 p=chi t p:=by
 unfold oR ord;rw [if_pos (by omega)]
theorem kzv (t:St) (x y:Nat) (hx:x<5):chi t (x+5*y)=t (x+5*y) ^^^ (~~~ t ((x+1) % 5+5*y) &&& t ((x+2) % 5+5*y)):=by
 unfold chi;rw [show (x+5*y) - (x+5*y) % 5+(x+5*y+1) % 5=(x+1) % 5+5*y by omega,show (x+5*y) - (x+5*y) % 5+(x+5*y+2) % 5=(x+2) % 5+5*y by omega]
theorem ku8 (s:St) (c:W64):∀p,p<25→upd (oR (mv s) 25) 0 (oR (mv s) 25 0 ^^^ c) p=rnd s c p:=by
 intro p hp;unfold rnd upd;rw [kwp _ 0 (by omega)];split
 ·rfl
 ·rw [kwp _ p hp]
theorem kml {s t:St} (c:W64) (h:∀i,i<25→s i=t i):∀p,p<25→rnd s c p=rnd t c p:=by
 have hm:∀p,p<25→mv s p=mv t p:=by
  intro p _
  have:=kse p
  unfold mv kp2 dif khw;rw [h _ this]
  simp only [show ∀x,x<5→s x=t x from fun x hx=>h x (by omega),show ∀x,x<5→s (x+5)=t (x+5) from fun x hx=>h _ (by omega),show ∀x,x<5→s (x+10)=t (x+10) from fun x hx=>h _ (by omega),
   show ∀x,x<5→s (x+15)=t (x+15) from fun x hx=>h _ (by omega),show ∀x,x<5→s (x+20)=t (x+20) from fun x hx=>h _ (by omega),Nat.mod_lt _ (show 0<5 by decide)]
 intro p hp
 have hc:∀q,q<25→chi (mv s) q=chi (mv t) q:=by
  intro q hq;unfold chi;rw [hm q hq,hm _ (by omega),hm _ (by omega)]
 unfold rnd upd;split
 ·rw [hc 0 (by omega)]
 ·exact hc p hp
def kfu (s:St) (l:Bs):Nat→St
 |0=>s
 |j+1=>kfd (kfu s l j) (l.drop (136*j))
def ky6 (r:Bs) (i:Nat):UInt8:=(if i<r.length then r.getD i 0 else if i=r.length then 6 else 0) ^^^ (if i=135 then 0x80 else 0)
def padL (r:Bs):Bs:=(List.range 136).map (ky6 r)
def kht (s:St) (i:Nat):UInt8:=UInt8.ofNat (s (i / 8) >>> (8*(i % 8))).toNat
def kll (s:St):Bs:=(List.range 32).map (kht s)
def st0:St:=fun _=>0
def fin (s:St) (r:Bs):St:=kfd s (padL r)
def sha (l:Bs):Bs:=kll (fin (kfu st0 l (l.length / 136)) (l.drop (136*(l.length / 136))))
theorem sha_len (l:Bs):(sha l).length=32:=by simp [sha,kll]
theorem kph {f g:Nat→UInt8} (s:St) (k:Nat) (h:∀i,i<k→f i=g i):khp f s k=khp g s k:=by
 induction k with
 |zero=>rfl
 |succ k ih=>unfold khp;rw [ih (fun i hi=>h i (by omega)),h k (by omega)]
theorem keb (s:St) {a b:Bs} (h:∀i,i<136→a.getD i 0=b.getD i 0):kfd s a=kfd s b:=by
 unfold kfd;rw [kph s 136 h]
theorem kd9 (l:Bs) (n i:Nat):(l.drop n).getD i 0=l.getD (n+i) 0:=by simp [List.getD_eq_getElem?_getD,List.getElem?_drop]
theorem kp3 (s:St) {a b:Bs} (j:Nat) (h:∀i,i<136*j→a.getD i 0=b.getD i 0):kfu s a j=kfu s b j:=by
 induction j with
 |zero=>rfl
 |succ j ih =>
  unfold kfu;rw [ih (fun i hi=>h i (by omega))];refine keb _ fun i hi=>?_
  rw [kd9,kd9,h _ (by omega)]
def kcz (l:Bs):Bs:=(l++[6])++List.replicate (135 - l.length % 136) 0
def kt2 (l:Bs):Bs:=(kcz l).set ((kcz l).length - 1) ((kcz l).getD ((kcz l).length - 1) 0 ||| 0x80)
theorem kfr (l:Bs):(kcz l).length=136*(l.length / 136+1):=by
 simp [kcz];omega
theorem kuc (l:Bs):(kt2 l).length=136*(l.length / 136+1):=by
 rw [←kfr];simp [kt2]
theorem kmi (l:Bs) (i:Nat):(kcz l).getD i 0=if i<l.length then l.getD i 0 else if i=l.length then 6 else 0:=by
 unfold kcz;rw [List.append_assoc]
 by_cases h:i<l.length
 ·simp [List.getD_eq_getElem?_getD,List.getElem?_append_left h,h]
 ·have h':l.length≤i:=by omega
  rw [if_neg h]
  by_cases h2:i=l.length
  ·subst h2;simp [List.getD_eq_getElem?_getD]
  ·rw [if_neg h2,List.getD_eq_getElem?_getD,List.getElem?_append_right h',show i - l.length=(i - l.length - 1)+1 by omega]
   simp [List.getElem?_replicate];split <;> rfl
theorem krt (l:Bs) (i:Nat) (hi:i<136*(l.length / 136+1)) :
 (kt2 l).getD i 0=if i=136*(l.length / 136+1) - 1 then (kcz l).getD i 0 ||| 0x80 else (kcz l).getD i 0:=by
 unfold kt2;rw [kfr]
 by_cases h:i=136*(l.length / 136+1) - 1
 ·rw [if_pos h,h]
  rw [List.getD_eq_getElem?_getD,List.getElem?_set_self (by rw [kfr];omega)];rfl
 ·rw [if_neg h]
  rw [List.getD_eq_getElem?_getD,List.getElem?_set_ne (by omega),←List.getD_eq_getElem?_getD]
theorem kq9 (l:Bs):kfu st0 (kt2 l) (l.length / 136+1)=fin (kfu st0 l (l.length / 136)) (l.drop (136*(l.length / 136))):=by
 show kfd (kfu st0 (kt2 l) (l.length / 136)) _=kfd _ _
 have e:kfu st0 (kt2 l) (l.length / 136)=kfu st0 l (l.length / 136):=by
  refine kp3 _ _ fun i hi=>?_
  rw [krt l i (by omega),if_neg (by omega),kmi,if_pos (by omega)]
 rw [e];refine keb _ fun i hi=>?_
 rw [kd9,krt l _ (by omega),kmi]
 have hp:(padL (l.drop (136*(l.length / 136)))).getD i 0=ky6 (l.drop (136*(l.length / 136))) i:=by
  unfold padL;rw [List.getD_eq_getElem?_getD,List.getElem?_map,List.getElem?_range hi];rfl
 rw [hp];unfold ky6;rw [kd9,List.length_drop];generalize hq:l.length / 136=q at *;have hb1:136*q≤l.length:=by omega
 have hb2:l.length<136*q+136:=by omega
 have c1:(136*q+i<l.length) ↔ (i<l.length - 136*q):=by omega
 have c2:(136*q+i=l.length) ↔ (i=l.length - 136*q):=by omega
 have c3:(136*q+i=136*(q+1) - 1) ↔ (i=135):=by omega
 simp only [c1,c2,c3]
 by_cases h:i=135
 ·subst h
  simp only [if_pos];rw [if_neg (by omega)]
  by_cases h2:135=l.length - 136*q
  ·rw [if_pos h2];decide
  ·rw [if_neg h2];decide
 ·simp [h]
theorem kx8 (l:Bs):kll (kfu st0 (kt2 l) (l.length / 136+1))=sha l:=by rw [kq9];rfl
end Licit.Sha
namespace Licit
open Go Go.Lib
def cnt (most e:Int):Nat→Int→Bs→(Int × Nat) ⊕ Bool
 |_,_,[]=>.inr true
 |i,n,c :: s =>
  if (c.toNat:Int)=e∧0<i then .inl (n,i)
  else if (c.toNat:Int)<48∨57<(c.toNat:Int)∨(i=1∧n=0) then .inr false
  else if most<10*n+((c.toNat:Int) - 48) then .inr false
  else cnt most e (i+1) (10*n+((c.toNat:Int) - 48)) s
abbrev St:=Bs × Int
def kp9 (low high:Int) (st:St):Int × St :=
 if st.2≠0 then (0,st) else
 match cnt 281474976710656 59 0 0 st.1 with
 |.inl (n,i)=>if n<low∨high<n then (0,([],3)) else (n,(st.1.drop (i+1),0))
 |.inr b=>(0,([],if b then 13 else 17))
def khr (most:Int) (st:St):Bs × St :=
 if st.2≠0 then ([],st) else
 match cnt 65536 58 0 0 st.1 with
 |.inl (n,i) =>
  if st.1.length≤i+1+n.toNat then ([],([],13))
  else if st.1[i+1+n.toNat]?≠some 44 then ([],([],17))
  else if most<n then ([],([],10))
  else ((st.1.drop (i+1)).take n.toNat,(st.1.drop (i+1+n.toNat+1),0))
 |.inr b=>([],([],if b then 13 else 17))
def kfw {α:Type} (one:St→α × St):Nat→St→List α × St
 |0,st=>([],st)
 |k+1,st=>if st.2≠0 then ([],st) else ((one st).1 :: (kfw one k (one st).2).1,(kfw one k (one st).2).2)
def ky9 {α:Type} (one:St→α × St) (st:St):List α × St :=
 let x:=kp9 0 1024 st
 let y:=kfw one x.1.toNat x.2
 (if y.2.2≠0 then [] else y.1,y.2)
def kq5 (most:Int) (st:St):List Bs × St:=ky9 (khr most) st
def kl2 (n:Int):Bs × Int:=if n<0∨281474976710656<n then ([],3) else (decDigits n.toNat++[59],0)
def ka9 (s:Bs):Bs × Int:=if 65536<s.length then ([],10) else (decDigits s.length++[58]++s++[44],0)
def kl9 {α:Type} (one:α→Bs × Int):List α→Bs→Bs × Int
 | [],acc=>(acc,0)
 |x :: l,acc=>if (one x).2≠0 then ([],(one x).2) else kl9 one l (acc++(one x).1)
def kco {α:Type} (one:α→Bs × Int) (l:List α):Bs × Int:=if 1024<l.length then ([],10) else kl9 one l (decDigits l.length++[59])
def kpp (s:Bs) (l:List Int) (t:List Bs):Bool:=decide ((∀x∈t,x.length≤200)∧s.length≤500∧l.length≤30∧t.length≤10)
def hsh (l:List Bs):Bs:=Sha.sha (kco ka9 l).1
def num (n:Int):Bs:=(kl2 n).1
theorem kf6 (l:List Bs):(hsh l).length=32:=Sha.sha_len _
theorem ki1 (s:Bs):(ka9 s).1.length≤65600:=by
 unfold ka9;split
 ·simp
 ·have:=Lib.itoa_length_le (s.length:Int) (by omega) (by omega)
  unfold Lib.itoa at this;rw [if_neg (by omega),Int.toNat_natCast] at this;simp;omega
theorem ko5 {α:Type} (one:α→Bs × Int) (h:∀x,(one x).1.length≤65600):∀(l:List α) (acc:Bs),(kl9 one l acc).1.length≤acc.length+l.length*65600
 | [],acc=>by simp [kl9]
 |x :: l,acc=>by
  unfold kl9;split
  ·simp
  ·have h1:=ko5 one h l (acc++(one x).1)
   have h2:=h x;rw [List.length_append] at h1;simp only [List.length_cons];omega
theorem kts (l:List Bs):(kco ka9 l).1.length≤1000000000000:=by
 unfold kco;split
 ·simp
 ·have h1:=ko5 ka9 ki1 l (decDigits l.length++[59])
  have h2:=Lib.itoa_length_le (l.length:Int) (by omega) (by omega);unfold Lib.itoa at h2;rw [if_neg (by omega),Int.toNat_natCast] at h2;rw [List.length_append] at h1;simp only [List.length_singleton] at h1;omega
def ket (b h:Int):Bool:=decide (8≤b∧b≤256∧0≤h∧h≤6)
end Licit
namespace Licit.Rv
open Go Licit
structure Sg where
 i:Int
 S:List Bs
 H:List Bs
 R:List Bs
structure Ev where
 kind:Int
 author:Bs
 number:Int
 names:List Bs
 root:Bs
 bits:Int
 height:Int
 pkg:Bs
 digest:Bs
 question:Bs
 scope:Bs
 answer:Bs
 till:Int
 targets:List Bs
 sg:Sg
def sg0:Sg:=⟨0,[],[],[]⟩
def ev0:Ev:=⟨0,[],0,[],[],0,0,[],[],[],[],[],0,[],sg0⟩
def ltB (a b:Bs):Bool:=Go.Op.bytesLess a b
def chB (c:UInt8):Bool:=(decide (97≤c) && decide (c≤122)) || (decide (48≤c) && decide (c≤57)) || decide (c=46) || decide (c=95) || decide (c=45)
def nameB (s:Bs):Bool:=decide (1≤s.length) && decide (s.length≤32) && decide (s.getD 0 0≠46) && decide (s.getD 0 0≠45) && s.all chB
def textB (s:Bs) (low high:Nat) (least:UInt8):Bool:=decide (low≤s.length) && decide (s.length≤high) && s.all fun c=>decide (least≤c) && decide (c≤126)
def digB (s:Bs):Bool:=decide (s.length=32)
def ascB:List Bs→Bool
 |a :: b :: r=>ltB a b && ascB (b :: r)
 |_=>true
def namesB (l:List Bs):Bool:=decide (l.length≤16) && l.all digB && ascB l
def decidesB (e:Ev):Bool:=textB e.question 1 128 33 && textB e.scope 0 128 33 && textB e.answer 0 200 32 && digB e.digest && decide (0≤e.till) && decide (e.till≤1000)
def kindB (e:Ev):Bool :=
 if e.kind=1 then decide (e.number=0) && digB e.root && ket e.bits e.height
 else if e.kind=2 then nameB e.pkg && digB e.digest
 else if e.kind=3 then decidesB e
 else if e.kind=4 then decide (e.targets.length=1) && digB (e.targets.getD 0 [])
 else if e.kind=5 then decide (e.targets.length=2) && digB (e.targets.getD 0 []) && digB (e.targets.getD 1 []) && !decide (e.targets.getD 0 []=e.targets.getD 1 [])
 else false
def restB (e:Ev):Bool :=
 (decide (e.kind=1) || (decide (e.root=[]) && decide (e.bits=0) && decide (e.height=0))) && (decide (e.kind=2) || decide (e.pkg=[])) && (decide (e.kind=2) || decide (e.kind=3) || decide (e.digest=[])) &&
 (decide (e.kind=3) || (decide (e.question=[]) && decide (e.scope=[]) && decide (e.answer=[]) && decide (e.till=0))) && (decide (e.kind=4) || decide (e.kind=5) || decide (e.targets=[]))
def validB (e:Ev):Bool:=nameB e.author && decide (0≤e.number) && decide (e.number≤63) && namesB e.names && kindB e && (decide (e.kind=1) || (decide (1≤e.number) && decide (0<e.names.length))) && restB e
def tx (s:Bs):Bs:=(ka9 s).1
def txs (l:List Bs):Bs:=(kco ka9 l).1
def encV (e:Ev):Bs :=
 num e.kind++tx e.author++num e.number++txs e.names++tx e.root++num e.bits++num e.height++tx e.pkg++tx e.digest++tx e.question++tx e.scope++tx e.answer++num e.till++txs e.targets
def kEvent:Bs:=[101,118,101,110,116]
def idV (e:Ev):Bs:=hsh [kEvent,encV e]
def validE (e:Ev):Int:=if validB e=true then 0 else 1
def encE (e:Ev):Bs:=if validB e=true then encV e else []
def idE (e:Ev):Bs:=if validB e=true then idV e else []
end Licit.Rv
namespace Licit
open Go Go.RowKit
def vI (n:Int):Value:=.int .i64 n
def vS (l:Bs):Value:=.string (B l)
end Licit
namespace Go.Proofs.YtknpbekoenbphaaGreatDoor
open Go Go.RowKit Licit
theorem kby {x y:Bs} (h:¬ x=y):((B x).toList == (B y).toList)=false:=by
 rw [ByteArray.toList_eq,ByteArray.toList_eq,B_list,B_list];simpa using h
theorem kbx (x:Bs):((B x).toList == (B x).toList)=true:=by simp
theorem _root_.Licit.IsSl.text {v:Value} {xs:List Bs} {w:World} (h:IsSl v (xs.map vS) w) {n:Nat} (hn:xs.length=n) {j:Nat} (hj:j<n) :
 ∃blk off cap,v = .slice (some ⟨blk,off,none⟩) n cap∧blk<w.heap.size∧w.cell? ⟨blk,off+j,none⟩=some (.string (B (xs.getD j []))):=by
 obtain ⟨a,cap,rfl⟩:=h.form;obtain ⟨blk,off,rfl,hb,hc⟩:=h.at (k:=j) (by rw [List.length_map];omega);refine ⟨blk,off,cap,by rw [List.length_map,hn],hb,?_⟩;rw [hc,List.getElem_map,List.getD_eq_getElem?_getD,List.getElem?_eq_getElem (by omega)];rfl
def kp1 (v:Value) (i:Int) (S H R:List Bs) (w:World):Prop:=∃vs vh vr:Value,v = .agg #[.int .i64 i,vs,vh,vr]∧IsSl vs (S.map vS) w∧IsSl vh (H.map vS) w∧IsSl vr (R.map vS) w
theorem kbz (x:Bs) (w:World):Calls Tryz.prog 160 #[.string (B x)] w fun e w'=>e = .returned (.bool (Rv.digB x))∧w'=w:=by
 have hs:(B x).size=x.length:=rfl
 by_cases h:x.length=32
 ·have hq:(((B x).size:Int) == 32)=true:=by simp;omega
  go_enter Tryz.func160,Tryz.ntmps160
  go_wp2
  go_ret
  refine ⟨?_,rfl⟩;simp [Rv.digB,h]
 ·have hq:(((B x).size:Int) == 32)=false:=by simp;omega
  go_enter Tryz.func160,Tryz.ntmps160
  go_wp2
  go_ret
  refine ⟨?_,rfl⟩;simp [Rv.digB,h];omega
theorem kbw {a b:Bool} (h:a=b):Ending.returned (.bool a) = .returned (.bool b):=by rw [h]
theorem kfg {α:Type} (p:α→Bool) (xs:List α) (k:Nat) (hk:k<xs.length) (h:(xs.take k).all p=true):(xs.take (k+1)).all p=p xs[k]:=by
 rw [List.take_add_one,List.all_append,h,List.getElem?_eq_getElem hk];simp
theorem kl3 {α:Type} (p:α→Bool) (xs:List α) (k:Nat) (hk:k<xs.length) (h:p xs[k]=false):xs.all p=false:=by
 rw [List.all_eq_false];exact ⟨xs[k],List.getElem_mem _,by simp [h]⟩
theorem kn5 (c:UInt8):Rv.chB c=true ↔ ((97≤(c.toNat:Int)∧(c.toNat:Int)≤122)∨(48≤(c.toNat:Int)∧(c.toNat:Int)≤57)∨(c.toNat:Int)=46∨(c.toNat:Int)=95∨(c.toNat:Int)=45):=by
 unfold Rv.chB;simp only [Bool.or_eq_true,Bool.and_eq_true,decide_eq_true_eq,UInt8.le_iff_toNat_le,←UInt8.toNat_inj];simp;omega
theorem kwm (c:UInt8):Rv.chB c=false ↔ ¬ ((97≤(c.toNat:Int)∧(c.toNat:Int)≤122)∨(48≤(c.toNat:Int)∧(c.toNat:Int)≤57)∨(c.toNat:Int)=46∨(c.toNat:Int)=95∨(c.toNat:Int)=45):=by
 rw [←kn5];simp
theorem knm (c least:UInt8):(decide (least≤c) && decide (c≤126))=true ↔ ((least.toNat:Int)≤(c.toNat:Int)∧(c.toNat:Int)≤126):=by
 simp only [Bool.and_eq_true,decide_eq_true_eq,UInt8.le_iff_toNat_le];simp;omega
theorem kwo (c least:UInt8):(decide (least≤c) && decide (c≤126))=false ↔ ¬ ((least.toNat:Int)≤(c.toNat:Int)∧(c.toNat:Int)≤126):=by
 rw [←knm];simp
theorem ki5 (s:ByteArray) (low high:Nat) (least:UInt8) (w:World) (hs:s.size≤maxLen) (hl:low≤1000) (hh:high≤1000) :
 Calls Tryz.prog 203 #[.string s,.int .i64 (low:Int),.int .i64 (high:Int),.int .u8 (least.toNat:Int)] w fun e w'=>e = .returned (.bool (Rv.textB s.data.toList low high least))∧w'=w:=by
 have hsz:s.data.toList.length=s.size:=rfl;unfold maxLen at hs
 by_cases h1:low≤s.size
 rotate_left
 ·have hr:Rv.textB s.data.toList low high least=false:=by unfold Rv.textB;rw [decide_eq_false (p:=low≤s.data.toList.length) (by omega)];rfl
  have d1:decide (s.size<low)=true:=by simp;omega
  rw [hr];clear hr
  go_enter Tryz.func203,Tryz.ntmps203
  go_wp2
  go_ret
  exact ⟨rfl,rfl⟩
 have d1:decide (s.size<low)=false:=by simp;omega
 by_cases h2:s.size≤high
 rotate_left
 ·have hr:Rv.textB s.data.toList low high least=false:=by unfold Rv.textB;rw [decide_eq_false (p:=s.data.toList.length≤high) (by omega)];simp
  have d2:decide (high<s.size)=true:=by simp;omega
  rw [hr];clear hr
  go_enter Tryz.func203,Tryz.ntmps203
  go_wp2
  go_ret
  exact ⟨rfl,rfl⟩
 have d2:decide (high<s.size)=false:=by simp;omega
 have hr:Rv.textB s.data.toList low high least=s.data.toList.all fun c=>decide (least≤c) && decide (c≤126):=by unfold Rv.textB;rw [decide_eq_true (p:=low≤s.data.toList.length) (by omega),decide_eq_true (p:=s.data.toList.length≤high) (by omega)];simp
 obtain ⟨R,hR⟩:∃R,(s.data.toList.all fun c=>decide (least≤c) && decide (c≤126))=R:=⟨_,rfl⟩;rw [hr,hR];have HZ:=hdd hsz;have HR:=hdd hR;clear hr hsz hR
 go_enter Tryz.func203,Tryz.ntmps203
 go_wp2
 go_loop [9,22] (fun _ n=>∃k:Nat,k≤s.size∧n = .int .i64 k∧(s.data.toList.take k).all (fun c=>decide (least≤c) && decide (c≤126))=true) (fun _ n=>s.size - (intOf n).toNat)
 case atStart=>exact ⟨0,by omega,rfl,by simp⟩
 case round =>
  obtain ⟨k,hk,rfl,hA⟩:=hrel;have HA:=hdd hA;clear hA
  by_cases hlt:k<s.size
  ·have ht:=kfg _ _ k (by rw [HZ.out];exact hlt) HA.out
   have hn:=fun h=>kl3 (fun c=>decide (least≤c) && decide (c≤126)) s.data.toList k (by rw [HZ.out];exact hlt) h
   have hg:s.data.toList[k]=s[k]:=rfl;rw [hg,Bool.eq_iff_iff,knm] at ht;rw [hg,kwo] at hn;have HT:=hdd ht;have HN:=hdd hn;clear ht hn hg
   go_wp2
   all_goals first
    |(go_round
      case rel=>exact ⟨k+1,by omega,by go_num,HT.out.2 ⟨by omega,by omega⟩⟩
      case measure=>simp [intOf];omega)
    |(go_ret
      exact ⟨kbw ((HN.out (by omega)).symm.trans HR.out),rfl⟩)
  ·obtain rfl:k=s.size:=by omega
   have hA:=HA.out;rw [←HZ.out,List.take_length] at hA
   go_wp2
   go_ret
   exact ⟨kbw (hA.symm.trans HR.out),rfl⟩
theorem kv0 (s:ByteArray) (w:World) (hs:s.size≤maxLen):Calls Tryz.prog 91 #[.string s] w fun e w'=>e = .returned (.bool (Rv.nameB s.data.toList))∧w'=w:=by
 have hsz:s.data.toList.length=s.size:=rfl;unfold maxLen at hs
 by_cases h1:1≤s.size
 rotate_left
 ·have hr:Rv.nameB s.data.toList=false:=by unfold Rv.nameB;rw [decide_eq_false (p:=1≤s.data.toList.length) (by omega)];rfl
  have d1:decide ((s.size:Int)<1)=true:=decide_eq_true (by omega);rw [hr];clear hr
  go_enter Tryz.func91,Tryz.ntmps91
  go_wp2
  go_ret
  exact ⟨rfl,rfl⟩
 have d1:decide ((s.size:Int)<1)=false:=decide_eq_false (by omega)
 by_cases h2:s.size≤32
 rotate_left
 ·have hr:Rv.nameB s.data.toList=false:=by unfold Rv.nameB;rw [decide_eq_false (p:=s.data.toList.length≤32) (by omega)];simp
  have d2:decide ((32:Int)<(s.size:Int))=true:=decide_eq_true (by omega);rw [hr];clear hr
  go_enter Tryz.func91,Tryz.ntmps91
  go_wp2
  go_ret
  exact ⟨rfl,rfl⟩
 have d2:decide ((32:Int)<(s.size:Int))=false:=decide_eq_false (by omega);have h0:0<s.size:=h1
 have hg:s.data.toList.getD 0 0=s[0]:=by
  rw [List.getD_eq_getElem?_getD,List.getElem?_eq_getElem (by omega)];rfl
 have hr:Rv.nameB s.data.toList=(decide (s[0]≠46) && decide (s[0]≠45) && s.data.toList.all Rv.chB):=by unfold Rv.nameB;rw [hg,decide_eq_true (p:=1≤s.data.toList.length) (by omega),decide_eq_true (p:=s.data.toList.length≤32) (by omega)];simp
 rw [hr];have HZ:=hdd hsz;clear hr hsz hg
 by_cases h3:s[0]=46
 ·have d3:((s[0].toNat:Int) == 46)=true:=by rw [h3];rfl
  have hr:(decide (s[0]≠46) && decide (s[0]≠45) && s.data.toList.all Rv.chB)=false:=by rw [decide_eq_false (by simpa using h3)];simp
  rw [hr];clear hr h3
  go_enter Tryz.func91,Tryz.ntmps91
  go_wp2
  go_ret
  exact ⟨rfl,rfl⟩
 have d3:((s[0].toNat:Int) == 46)=false:=by
  have hne:s[0].toNat≠46:=fun e=>h3 (UInt8.toNat_inj.1 e)
  simp;omega
 by_cases h4:s[0]=45
 ·have d4:((s[0].toNat:Int) == 45)=true:=by rw [h4];rfl
  have hr:(decide (s[0]≠46) && decide (s[0]≠45) && s.data.toList.all Rv.chB)=false:=by rw [decide_eq_false (p:=s[0]≠45) (by simpa using h4)];simp
  rw [hr];clear hr h4 h3
  go_enter Tryz.func91,Tryz.ntmps91
  go_wp2
  go_ret
  exact ⟨rfl,rfl⟩
 have d4:((s[0].toNat:Int) == 45)=false:=by
  have hne:s[0].toNat≠45:=fun e=>h4 (UInt8.toNat_inj.1 e)
  simp;omega
 rw [decide_eq_true h3,decide_eq_true h4];simp only [Bool.true_and];obtain ⟨R,hR⟩:∃R,s.data.toList.all Rv.chB=R:=⟨_,rfl⟩;rw [hR];have HR:=hdd hR;clear h3 h4 hR
 go_enter Tryz.func91,Tryz.ntmps91
 go_wp2
 go_loop [3,4,25,31] (fun _ _ n _=>∃k:Nat,k≤s.size∧n = .int .i64 k∧(s.data.toList.take k).all Rv.chB=true) (fun _ _ n _=>s.size - (intOf n).toNat)
 case atStart=>exact ⟨0,by omega,rfl,by simp⟩
 case round =>
  obtain ⟨k,hk,rfl,hA⟩:=hrel;have HA:=hdd hA;clear hA d3 d4 d1 d2
  by_cases hlt:k<s.size
  ·have ht:=kfg _ _ k (by rw [HZ.out];exact hlt) HA.out
   have hn:=fun h=>kl3 Rv.chB s.data.toList k (by rw [HZ.out];exact hlt) h
   have hg:s.data.toList[k]=s[k]:=rfl;rw [hg,Bool.eq_iff_iff,kn5] at ht;rw [hg,kwm] at hn;have HT:=hdd ht;have HN:=hdd hn;clear ht hn hg
   go_wp2
   all_goals first
    |(go_round
      case rel=>exact ⟨k+1,by omega,by go_num,HT.out.2 (by simp at *;omega)⟩
      case measure=>simp [intOf];omega)
    |(go_ret
      exact ⟨kbw ((HN.out (by simp at *;omega)).symm.trans HR.out),rfl⟩)
  ·obtain rfl:k=s.size:=by omega
   have hA:=HA.out;rw [←HZ.out,List.take_length] at hA
   go_wp2
   go_ret
   exact ⟨kbw (hA.symm.trans HR.out),rfl⟩
theorem kcc (x y:Bs):Op.bytesLess (B x).toList (B y).toList=Rv.ltB x y:=by
 rw [ByteArray.toList_eq,ByteArray.toList_eq,B_list,B_list];rfl
theorem ks9 (l:List Bs) (x:Bs):Rv.ascB (l++[x])=(Rv.ascB l && (match l.getLast? with|none=>true|some y=>Rv.ltB y x)):=by
 induction l with
 |nil=>rfl
 |cons a r ih =>
  cases r with
  |nil=>simp [Rv.ascB]
  |cons b q =>
   show (Rv.ltB a b && Rv.ascB ((b :: q)++[x]))=_;rw [ih];simp [Rv.ascB,List.getLast?_cons_cons,Bool.and_assoc]
theorem kvi (l r:List Bs) (h:Rv.ascB l=false):Rv.ascB (l++r)=false:=by
 induction l with
 |nil=>simp [Rv.ascB] at h
 |cons a q ih =>
  cases q with
  |nil=>simp [Rv.ascB] at h
  |cons b q =>
   simp only [Rv.ascB,Bool.and_eq_false_iff] at h;show (Rv.ltB a b && Rv.ascB ((b :: q)++r))=false;rcases h with h|h
   ·rw [h];rfl
   ·rw [ih h];simp
theorem ksy (xs:List Bs) {k:Nat} (h0:0<k) (hk:k≤xs.length):(xs.take k).getLast? = some (xs.getD (k - 1) []):=by
 rw [List.getLast?_eq_getElem?,List.length_take,Nat.min_eq_left hk,List.getElem?_take_of_lt (by omega),List.getElem?_eq_getElem (by omega),List.getD_eq_getElem?_getD,List.getElem?_eq_getElem (by omega)];rfl
theorem kma (xs:List Bs) {k:Nat} (hk:k<xs.length) (h:Rv.ascB (xs.take k)=true):Rv.ascB (xs.take (k+1))=(decide (k=0) || Rv.ltB (xs.getD (k - 1) []) (xs.getD k [])):=by
 rw [List.take_succ_eq_append_getElem hk,ks9,h]
 by_cases h0:k=0
 ·subst h0;simp
 ·rw [ksy xs (by omega) (by omega)]
  simp [h0,List.getD_eq_getElem?_getD,List.getElem?_eq_getElem hk]
theorem kq3 (xs:List Bs) {k:Nat} (h:Rv.ascB (xs.take k)=false):Rv.ascB xs=false:=by
 rw [←List.take_append_drop k xs];exact kvi _ _ h
def okN (xs:List Bs):Bool:=xs.all Rv.digB && Rv.ascB xs
theorem kup (xs:List Bs) {k:Nat} (hk:k<xs.length) (h:okN (xs.take k)=true):okN (xs.take (k+1))=(Rv.digB (xs.getD k []) && (decide (k=0) || Rv.ltB (xs.getD (k - 1) []) (xs.getD k []))):=by
 unfold okN at *;rw [Bool.and_eq_true] at h;rw [kfg _ _ k hk h.1,kma xs hk h.2];have e:xs.getD k []=xs[k]:=by rw [List.getD_eq_getElem?_getD,List.getElem?_eq_getElem hk];rfl
 rw [e]
theorem kzg (xs:List Bs) {k:Nat} (h:okN (xs.take k)=false):okN xs=false:=by
 unfold okN at *;rw [Bool.and_eq_false_iff] at h;rcases h with h|h
 ·have:xs.all Rv.digB=false:=by
   rw [←List.take_append_drop k xs,List.all_append,h];rfl
  rw [this];rfl
 ·rw [kq3 xs h];simp
theorem ksg (v:Value) (xs:List Bs) (w:World) (h:IsSl v (xs.map vS) w):Calls Tryz.prog 92 #[v] w fun e w'=>e = .returned (.bool (Rv.namesB xs))∧w'=w:=by
 obtain ⟨a,cap,rfl⟩:=h.formMap;have hmx:=h.1;rw [List.length_map] at hmx;unfold maxLen at hmx;have hr:Rv.namesB xs=(okN xs && decide (xs.length≤16)):=by unfold Rv.namesB okN;cases decide (xs.length≤16) <;> simp
 obtain ⟨R,hR⟩:∃R,okN xs=R:=⟨_,rfl⟩;rw [hr,hR];have HR:=hdd hR;have H:=hdd h;clear hr hR h
 go_enter Tryz.func92,Tryz.ntmps92
 go_wp2
 go_loopw [3,4,7] (fun _ _ n wr=>wr=w∧∃k:Nat,k≤xs.length∧n = .int .i64 k∧okN (xs.take k)=true) (fun _ _ n _=>xs.length - (intOf n).toNat)
 case atStart=>exact ⟨rfl,0,by omega,rfl,by simp [okN,Rv.ascB]⟩
 case round =>
  obtain ⟨rfl,k,hk,rfl,hA⟩:=hrel;have HA:=hdd hA;clear hA
  by_cases hlt:k<xs.length
  ·have HST:=hdd (kup xs hlt HA.out)
   have HNO:=hdd (fun h=>kzg xs (k:=k+1) h);have h2:=H.out;obtain ⟨b,off,cap',hv,hb,hc⟩:=h2.text rfl hlt;simp only [Value.slice.injEq,true_and] at hv;obtain ⟨rfl,rfl⟩:=hv;obtain ⟨x,hx⟩:∃x,xs.getD k []=x:=⟨_,rfl⟩;rw [hx] at hc;have Hx:=hdd hx;have hi1:(k:Int)<(xs.length:Int):=by omega
   clear hx
   by_cases c1:Rv.digB x=true
   rotate_left
   ·simp only [Bool.not_eq_true] at c1
    have hcall:=kbz x;rw [c1] at hcall;have C1:=hdd c1;clear h2 c1
    go_wp2_with (go_at_call 160;refine (hcall _).mono ?_;rintro e w' ⟨rfl,rfl⟩)
    go_ret
    exact ⟨kbw (by rw [←HR.out,HNO.out (by rw [HST.out,Hx.out,C1.out];rfl)];rfl),rfl⟩
   have hcall:=kbz x;rw [c1] at hcall;have C1:=hdd c1;clear c1
   by_cases c0:k=0
   ·have C0:=hdd c0
    have hq:decide (0<k)=false:=decide_eq_false (by omega);clear h2 c0
    go_wp2_with (go_at_call 160;refine (hcall _).mono ?_;rintro e w' ⟨rfl,rfl⟩)
    go_roundw
    case rel=>exact ⟨trivial,k+1,by omega,by go_num,by rw [HST.out,Hx.out,C1.out,decide_eq_true C0.out];rfl⟩
    case measure=>simp [intOf];omega
   have hq:decide (0<k)=true:=decide_eq_true (by omega);obtain ⟨b2,off2,cap2,hv2,hb2,hc2⟩:=h2.text rfl (show k - 1<xs.length by omega);simp only [Value.slice.injEq,true_and,Option.some.injEq,Addr.mk.injEq,and_true] at hv2;obtain ⟨⟨rfl,rfl⟩,rfl⟩:=hv2;obtain ⟨y,hy⟩:∃y,xs.getD (k - 1) []=y:=⟨_,rfl⟩;rw [hy] at hc2;have Hy:=hdd hy;have e1:IntKind.i64.wrap ((k:Int) - 1)=((k - 1:Nat):Int):=by rw [IntWalk.i64_in _ (by omega)];omega
   have e2:((k:Int) - 1).toNat=k - 1:=by omega
   have e3:(0:Int)≤(k:Int) - 1:=by omega
   have C0:=hdd c0;clear hy h2 c0
   by_cases c2:Rv.ltB y x=true
   ·have hl:Op.bytesLess (B y).toList (B x).toList=true:=(kcc y x).trans c2
    have C2:=hdd c2;clear c2
    go_wp2_with (go_at_call 160;refine (hcall _).mono ?_;rintro e w' ⟨rfl,rfl⟩)
    go_roundw
    case rel=>exact ⟨trivial,k+1,by omega,by go_num,by rw [HST.out,Hx.out,C1.out,Hy.out,C2.out];simp⟩
    case measure=>simp [intOf];omega
   ·simp only [Bool.not_eq_true] at c2
    have hl:Op.bytesLess (B y).toList (B x).toList=false:=(kcc y x).trans c2;have C2:=hdd c2;clear c2
    go_wp2_with (go_at_call 160;refine (hcall _).mono ?_;rintro e w' ⟨rfl,rfl⟩)
    go_ret
    exact ⟨kbw (by rw [←HR.out,HNO.out (by rw [HST.out,Hx.out,C1.out,Hy.out,C2.out,decide_eq_false C0.out];rfl)];rfl),rfl⟩
  ·obtain rfl:k=xs.length:=by omega
   have hA:=HA.out;rw [List.take_length] at hA;have HA:=hdd hA;clear hA
   go_wp2
   go_ret
   exact ⟨kbw (by rw [←HR.out,HA.out,Bool.true_and];exact decide_eq_decide.2 (by omega)),rfl⟩
abbrev evV (e:Rv.Ev) (vn vt vs vh vr:Value):Value:=.agg #[.int .i64 e.kind,.string (B e.author),.int .i64 e.number,vn,.string (B e.root),.int .i64 e.bits,.int .i64 e.height,.string (B e.pkg),.string (B e.digest),.string (B e.question),.string (B e.scope),.string (B e.answer),.int .i64 e.till,vt,.int .i64 e.sg.i,vs,vh,vr]
theorem ky0 (x:Bs) (w:World) (hx:x.length≤maxLen):Calls Tryz.prog 203 #[.string (B x),.int .i64 1,.int .i64 128,.int .u8 33] w fun e w'=>e = .returned (.bool (Rv.textB x 1 128 33))∧w'=w :=
 ki5 (B x) 1 128 33 w hx (by decide) (by decide)
theorem ky8 (x:Bs) (w:World) (hx:x.length≤maxLen):Calls Tryz.prog 203 #[.string (B x),.int .i64 0,.int .i64 128,.int .u8 33] w fun e w'=>e = .returned (.bool (Rv.textB x 0 128 33))∧w'=w :=
 ki5 (B x) 0 128 33 w hx (by decide) (by decide)
theorem kz5 (x:Bs) (w:World) (hx:x.length≤maxLen):Calls Tryz.prog 203 #[.string (B x),.int .i64 0,.int .i64 200,.int .u8 32] w fun e w'=>e = .returned (.bool (Rv.textB x 0 200 32))∧w'=w :=
 ki5 (B x) 0 200 32 w hx (by decide) (by decide)
theorem k0k (x:Bs) (w:World) (hx:x.length≤maxLen):Calls Tryz.prog 91 #[.string (B x)] w fun e w'=>e = .returned (.bool (Rv.nameB x))∧w'=w:=kv0 (B x) w hx
theorem knk (e:Rv.Ev) (vn vt vs vh vr:Value) (w:World) (h1:e.question.length≤maxLen) (h2:e.scope.length≤maxLen) (h3:e.answer.length≤maxLen) :
 Calls Tryz.prog 161 #[evV e vn vt vs vh vr] w fun en w'=>en = .returned (.bool (Rv.decidesB e))∧Below w.heap.size w w':=by
 obtain ⟨kind,author,number,names,root,bits,height,pkg,digest,question,scope,answer,till,targets,sg⟩:=e;dsimp only at h1 h2 h3;have q1:=fun W=>ky0 question W h1
 have q2:=fun W=>ky8 scope W h2
 have q3:=fun W=>kz5 answer W h3
 have q4:=fun W=>kbz digest W
 have hr:Rv.decidesB ⟨kind,author,number,names,root,bits,height,pkg,digest,question,scope,answer,till,targets,sg⟩=(Rv.textB question 1 128 33 && Rv.textB scope 0 128 33 && Rv.textB answer 0 200 32 && Rv.digB digest && decide (0≤till) && decide (till≤1000)):=rfl;rw [hr];generalize Rv.textB question 1 128 33=R1 at *;generalize Rv.textB scope 0 128 33=R2 at *;generalize Rv.textB answer 0 200 32=R3 at *;generalize Rv.digB digest=R4 at *;clear hr;have HB:=hdd ((Below.refl w.heap.size w).alloc (Nat.le_refl _) (.cells #[.int .i64 kind,.string (B author),.int .i64 number,vn,.string (B root),.int .i64 bits,.int .i64 height,.string (B pkg),.string (B digest),.string (B question),.string (B scope),.string (B answer),.int .i64 till,vt,.int .i64 sg.i,vs,vh,vr] 45))
 cases R1
 rotate_left
 cases R2
 rotate_left
 cases R3
 rotate_left
 cases R4
 rotate_left
 by_cases c5:0≤till
 ·have d5:decide (0≤till)=true:=decide_eq_true c5
  have C5:=hdd c5;clear c5
  go_enter Tryz.func161,Tryz.ntmps161
  go_wp2_with (first|(go_at_call 160;(with_reducible refine (q4 _).mono ?_);rintro e w' ⟨rfl,rfl⟩)|(go_at_call 203;(with_reducible refine (q1 _).mono ?_);rintro e w' ⟨rfl,rfl⟩)|(go_at_call 203;(with_reducible refine (q2 _).mono ?_);rintro e w' ⟨rfl,rfl⟩)|(go_at_call 203;(with_reducible refine (q3 _).mono ?_);rintro e w' ⟨rfl,rfl⟩))
  go_ret
  exact ⟨kbw (by simp [C5.out]),HB.out⟩
 ·have d5:decide (0≤till)=false:=decide_eq_false c5
  have C5:=hdd c5;clear c5
  go_enter Tryz.func161,Tryz.ntmps161
  go_wp2_with (first|(go_at_call 160;(with_reducible refine (q4 _).mono ?_);rintro e w' ⟨rfl,rfl⟩)|(go_at_call 203;(with_reducible refine (q1 _).mono ?_);rintro e w' ⟨rfl,rfl⟩)|(go_at_call 203;(with_reducible refine (q2 _).mono ?_);rintro e w' ⟨rfl,rfl⟩)|(go_at_call 203;(with_reducible refine (q3 _).mono ?_);rintro e w' ⟨rfl,rfl⟩))
  go_ret
  exact ⟨kbw (by rw [decide_eq_false (by have:=C5.out;omega)];simp),HB.out⟩
 all_goals
  go_enter Tryz.func161,Tryz.ntmps161
  go_wp2_with (first|(go_at_call 160;(with_reducible refine (q4 _).mono ?_);rintro e w' ⟨rfl,rfl⟩)|(go_at_call 203;(with_reducible refine (q1 _).mono ?_);rintro e w' ⟨rfl,rfl⟩)|(go_at_call 203;(with_reducible refine (q2 _).mono ?_);rintro e w' ⟨rfl,rfl⟩)|(go_at_call 203;(with_reducible refine (q3 _).mono ?_);rintro e w' ⟨rfl,rfl⟩))
  go_ret
  exact ⟨kbw (by simp),HB.out⟩
end Go.Proofs.YtknpbekoenbphaaGreatDoor
namespace Go.Proofs.YtknpbekoenbphaaGreatDoor
open Go Go.RowKit Licit Licit.Sha
theorem ktb (x:W64) (n:Nat) (w:World) (h:n<64) :
 Calls Tryz.prog 234 #[.int .u64 (x.toNat:Int),.int .i64 (n:Int)] w fun e w'=>e = .returned (vW (rot x n))∧w=w':=by
 have h1:=k00 x;have hb:=k01 x n;have HB:=hdd hb;clear hb
 go_enter Tryz.func234,Tryz.ntmps234
 go_wp2
 go_ret
 exact ⟨congrArg (fun v=>Ending.returned (.int .u64 v)) HB.out,rfl⟩
theorem kfz (x:W64) (n:Nat) (w:World) (h:n<64) :
 Calls Tryz.prog 255 #[.int .u64 (x.toNat:Int),.int .i64 (n:Int)] w fun e w'=>e = .returned (vW (rot x n))∧w=w':=by
 have h1:=k00 x;have hb:=k01 x n;have HB:=hdd hb;clear hb;have ha:=ky2 n h
 go_enter Tryz.func255,Tryz.ntmps255
 go_wp2
 go_ret
 exact ⟨congrArg (fun v=>Ending.returned (.int .u64 v)) HB.out,rfl⟩
def kk8:List Value:=[Value.int .i64 0,Value.int .i64 1,Value.int .i64 62,Value.int .i64 28,Value.int .i64 27,Value.int .i64 36,Value.int .i64 44,Value.int .i64 6,Value.int .i64 55,Value.int .i64 20,Value.int .i64 3,Value.int .i64 10,Value.int .i64 43,Value.int .i64 25,Value.int .i64 39,Value.int .i64 41,Value.int .i64 45,Value.int .i64 15,Value.int .i64 21,Value.int .i64 8,Value.int .i64 18,Value.int .i64 2,Value.int .i64 61,Value.int .i64 56,Value.int .i64 14]
def kr1:List Value:=[Value.int .u64 1,Value.int .u64 32898,Value.int .u64 9223372036854808714,Value.int .u64 9223372039002292224,Value.int .u64 32907,Value.int .u64 2147483649,Value.int .u64 9223372039002292353,Value.int .u64 9223372036854808585,Value.int .u64 138,Value.int .u64 136,Value.int .u64 2147516425,Value.int .u64 2147483658,Value.int .u64 2147516555,Value.int .u64 9223372036854775947,Value.int .u64 9223372036854808713,Value.int .u64 9223372036854808579,Value.int .u64 9223372036854808578,Value.int .u64 9223372036854775936,Value.int .u64 32778,Value.int .u64 9223372039002259466,Value.int .u64 9223372039002292353,Value.int .u64 9223372036854808704,Value.int .u64 2147483649,Value.int .u64 9223372039002292232]
theorem kux:kk8=kz8.map (fun n:Nat=>Value.int .i64 (n:Int)):=rfl
theorem ku5:kr1=cons.map (fun n=>vW (BitVec.ofNat 64 n)):=by kernel_rfl
theorem kww {α β:Type} (f:α→β) (l:List α) (d:α) (i:Nat) (h:i<l.length):(l.map f)[i]? = some (f (l.getD i d)):=by
 rw [List.getElem?_map,List.getD_eq_getElem?_getD,List.getElem?_eq_getElem h];rfl
theorem koi (i:Nat) (h:i<25):kk8[i]? = some (.int .i64 (off i:Int)):=by
 rw [kux];exact kww _ kz8 0 i h
theorem koq (i:Nat) (h:i<24):kr1[i]? = some (vW (con i)):=by
 rw [ku5];exact kww _ cons 0 i h
theorem kpj (x y:Nat) (w:World) (hx:x<5) (hy:y<5) :
 Calls Tryz.prog 235 #[.int .i64 (x:Int),.int .i64 (y:Int)] w fun e w'=>e = .returned (.int .i64 (off (x+5*y):Int))∧Below w.heap.size w w':=by
 have hL:=koi (x+5*y) (by omega);unfold kk8 at hL
 go_enter Tryz.func235,Tryz.ntmps235
 go_wp2
 go_ret
 exact ⟨rfl,(Below.refl _ _).alloc (Nat.le_refl _) _⟩
theorem klm (i:Nat) (w:World) (h:i<24) :
 Calls Tryz.prog 206 #[.int .i64 (i:Int)] w fun e w'=>e = .returned (vW (con i))∧Below w.heap.size w w':=by
 have hL:=koq i h;obtain ⟨_,hL⟩:=List.getElem?_eq_some_iff.1 hL;have HL:=hdd hL;clear hL
 go_enter Tryz.func206,Tryz.ntmps206
 go_wp2
 go_ret
 exact ⟨congrArg Ending.returned HL.out,(Below.refl _ _).alloc (Nat.le_refl _) _⟩
theorem km6 (w:World) :
 Calls Tryz.prog 245 #[] w fun e w'=>e = .returned (.agg kk8.toArray)∧Below w.heap.size w w':=by
 go_enter Tryz.func245,Tryz.ntmps245
 go_wp2_with (refine ka8 rfl 278 _ _ rfl _ rfl kk8.toArray rfl _ _ (kai w _) (by kernel_rfl) rfl (by kernel_rfl) ?_)
 refine kbv rfl _ 278 _ (0,0) _ rfl (kf0 (kai w _)) rfl rfl (by kernel_rfl) rfl ?_;exact ⟨rfl,Below.setRow' ((Below.refl _ _).alloc (Nat.le_refl _) _) (Nat.le_refl _) _⟩
theorem kky (w:World) :
 Calls Tryz.prog 246 #[] w fun e w'=>e = .returned (.agg kr1.toArray)∧Below w.heap.size w w':=by
 go_enter Tryz.func246,Tryz.ntmps246
 go_wp2_with (refine ka8 rfl 280 _ _ rfl _ rfl kr1.toArray rfl _ _ (kai w _) (by kernel_rfl) rfl (by kernel_rfl) ?_)
 refine kbv rfl _ 280 _ (0,0) _ rfl (kf0 (kai w _)) rfl rfl (by kernel_rfl) rfl ?_;exact ⟨rfl,Below.setRow' ((Below.refl _ _).alloc (Nat.le_refl _) _) (Nat.le_refl _) _⟩
end Go.Proofs.YtknpbekoenbphaaGreatDoor
