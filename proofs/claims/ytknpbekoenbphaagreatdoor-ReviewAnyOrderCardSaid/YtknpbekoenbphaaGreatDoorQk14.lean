/- Parts of the proofs: FrmSort, Srt, WkRv9b. No condition beyond those at each theorem. -/
import Derived.Ground.GgzProg
import Derived.Ground.SlgmProg
import Derived.Ground.SlsfProg
import Derived.Shelf.SlGeneric
import Derived.Shelf.SlIter.Nil
import Derived.Shelf.SlSortCmp.NoneTotal
import Derived.Shelf.SortM.Plain
import Derived.Shelf.SortM.SortNone
import Derived.Test.YtknpbekoenbphaaGreatDoorQk13
set_option linter.unusedVariables false
set_option linter.unusedSimpArgs false
set_option maxHeartbeats 16000000
set_option maxRecDepth 100000
namespace Licit
open Go Go.RowKit Go.Sort Go.Proofs Go.Shelf
section
variable {α:Type} [Inhabited α]
theorem kg7 (enc:α→Value) (w:World) (b off k:Nat) (d:Array α) (h:k≠b):(putRow enc w b off d).heap[k]? = w.heap[k]?:=by
 show (w.heap.modify b _)[k]? = _;rw [Array.getElem?_modify,if_neg (Ne.symm h)]
theorem ker (enc:α→Value) (w:World) (b off:Nat) (d:Array α) {cs:Array Value} {e:TypeId} {fr:Nat × Nat} (h:w.heap[b]? = some (.cells cs e fr)):(putRow enc w b off d).heap[b]? = some (.cells (putCells enc off d cs) e fr):=by
 show (w.heap.modify b _)[b]? = _;rw [Array.getElem?_modify,if_pos rfl,h];rfl
theorem kc9 (enc:α→Value) (w:World) (b q:Nat) (d:Array α) (os:Array Obj):ka7 (One b) w (sortWorld enc w b 0 q d os):=by
 refine ⟨rfl,rfl,rfl,?_,fun k hk hn=>?_⟩
 ·show w.heap.size≤(grow (putRow enc (Sort.ahead w q) b 0 d) os).heap.size
  rw [size_grow,Go.Sort.size_putRow];exact Nat.le_add_right _ _
 ·show (grow (putRow enc (Sort.ahead w q) b 0 d) os).heap[k]? = _
  rw [heap_grow_old _ _ (by rw [Go.Sort.size_putRow];exact hk),kg7 _ _ _ _ _ _ hn];rfl
theorem ki8 (xs:List α) (j:Nat) (h:j<xs.length):xs[j]? = some (xs.toArray[j]!):=by
 rw [getElem!_pos xs.toArray j (by simpa using h),List.getElem?_eq_getElem h];rfl
theorem ksk {w:World} {base b cap:Nat} {e:TypeId} {enc:α→Value} {xs:List α} (h:w.ownsRow base e 1 (.slice (some ⟨b,0,none⟩) xs.length cap) xs.length (xs.map enc)):Holds enc w b 0 xs.toArray:=by
 intro j hj;have hj':j<xs.length:=by simpa using hj
 rcases h.2 with ⟨h1,_⟩|⟨g,c,cur,hv,hg,hh,h1,h2,h3,h4⟩
 ·cases h1
 ·cases hv
  have h5:(xs.map enc)[j]? = (List.take (xs.length*1) cur.toList)[j]?:=by rw [h4]
  refine ⟨?_,?_⟩
  ·rw [kaa hh,Nat.zero_add]
   rw [List.getElem?_take_of_lt (by omega)] at h5;rw [←Array.getElem?_toList,←h5,List.getElem?_map,ki8 xs j hj'];rfl
  ·unfold World.frozen?
   simp only [hh];simp
theorem kk3 {w:World} {base b cap q:Nat} {e:TypeId} {enc:α→Value} {xs ys:List α} {os:Array Obj} (h:w.ownsRow base e 1 (.slice (some ⟨b,0,none⟩) xs.length cap) xs.length (xs.map enc)) (hl:ys.length=xs.length) :
 (sortWorld enc w b 0 q ys.toArray os).ownsRow base e 1 (.slice (some ⟨b,0,none⟩) xs.length cap) xs.length (ys.map enc):=by
 refine ⟨by simp [hl],?_⟩;rcases h.2 with ⟨h1,_⟩|⟨g,c,cur,hv,hg,hh,h1,h2,h3,h4⟩
 ·cases h1
 ·cases hv
  refine .inr ⟨b,cap,putCells enc 0 ys.toArray cur,rfl,hg,?_,h1,h2,by simp [putCells,h3],?_⟩
  ·show (grow (putRow enc (Sort.ahead w q) b 0 ys.toArray) os).heap[b]? = _
   rw [heap_grow_old _ _ (by rw [Go.Sort.size_putRow];exact kad hh)];exact ker enc (Sort.ahead w q) b 0 _ hh
  ·apply List.ext_getElem?
   intro k
   by_cases hk:k<ys.length
   ·rw [List.getElem?_take_of_lt (by omega),Array.getElem?_toList,putCells,Array.getElem?_mapIdx,List.getElem?_map,ki8 ys k hk]
    rw [Array.getElem?_eq_getElem (show k<cur.size by omega)];simp [hk]
   ·rw [List.getElem?_eq_none (by simp;omega),List.getElem?_eq_none (by simp;omega)]
theorem kx4 {P:Program} {ρ:Ren} (L:SlLaysF.n6 P ρ) (enc:α→Value) (h1:OneCell enc) (cf:α→α→Int) (hO:SWO (ltOf cf)) (hT:∀x y,ltOf cf x y=false→ltOf cf y x=false→x=y) (g:Nat) (eg:∀args w,(callFunc g args).run P w = .ok (.enter g args) w)
 (xs:List α) (w:World) (base b cap:Nat) (e:TypeId) (hown:w.ownsRow base e 1 (.slice (some ⟨b,0,none⟩) xs.length cap) xs.length (xs.map enc)) (hcap:xs.length<4611686018427387904)
 (hcmp:∀W,ka7 (One b) w W→∀x y,Calls P g #[enc x,enc y] W fun en w'=>en = .returned (.int .i64 (cf x y))∧∃q os',w'=grow (W.drewN q) os') :
 Calls P (ρ.f 6) #[.slice (some ⟨b,0,none⟩) xs.length cap,.func (.func g) #[] #[]] w fun en w'=>en = .returned (.tuple #[])∧w'.ownsRow base e 1 (.slice (some ⟨b,0,none⟩) xs.length cap) xs.length ((xs.mergeSort fun x y=>!(ltOf cf) y x).map enc)∧ka7 (One b) w w':=by
 have hlt:b<w.heap.size:=(hown.lt b rfl).2
 have hS:=Any.slices_SortFunc_total L enc h1 cf hO g #[] b 0 cap xs.toArray w eg (fun m os dk _ x y=>by
  have:=hcmp (sortWorld enc w b 0 m dk os) (kc9 enc w b m dk os) x y
  simpa using this) (ksk hown) hlt (by simpa using hcap) hT
 rw [List.size_toArray] at hS;refine hS.mono ?_;rintro en w' ⟨rfl,n,os,rfl⟩;exact ⟨rfl,kk3 hown (by simp),kc9 _ _ _ _ _ _⟩
end
end Licit
namespace Go.Proofs
open Go.Shelf
def Tryz.sortNode_ren:Go.Shelf.Ren:=⟨fun|6=>133|15=>113|14=>191|28=>181|29=>182|20=>221|21=>222|22=>223|23=>224|24=>225|25=>226|26=>227|27=>228|46=>240|47=>208|48=>209|49=>241|50=>242|57=>249|n=>n,fun|22=>86|24=>91|25=>181|3=>3|39=>131|0=>0|53=>222|55=>209|4=>4|46=>214|45=>213|50=>219|5=>5|9=>9|66=>242|70=>246|76=>270|77=>271|n=>n,fun|n=>n⟩
theorem Tryz.sortNode:Go.Proofs.SlLaysF.n6 Tryz.prog Tryz.sortNode_ren:={
 mixed:=by kernel_rfl
 f6:=⟨Tryz.f133.name,by decide,Tryz.func133.trans (congrArg some (by kernel_rfl))⟩
 f14:=⟨Tryz.f191.name,by decide,Tryz.func191.trans (congrArg some (by kernel_rfl))⟩
 f15:=Tryz.func113.trans (congrArg some (by kernel_rfl))
 f20:=⟨Tryz.f221.name,by decide,Tryz.func221.trans (congrArg some (by kernel_rfl))⟩
 f21:=⟨Tryz.f222.name,by decide,Tryz.func222.trans (congrArg some (by kernel_rfl))⟩
 f22:=⟨Tryz.f223.name,by decide,Tryz.func223.trans (congrArg some (by kernel_rfl))⟩
 f23:=⟨Tryz.f224.name,by decide,Tryz.func224.trans (congrArg some (by kernel_rfl))⟩
 f24:=⟨Tryz.f225.name,by decide,Tryz.func225.trans (congrArg some (by kernel_rfl))⟩
 f25:=⟨Tryz.f226.name,by decide,Tryz.func226.trans (congrArg some (by kernel_rfl))⟩
 f26:=⟨Tryz.f227.name,by decide,Tryz.func227.trans (congrArg some (by kernel_rfl))⟩
 f27:=⟨Tryz.f228.name,by decide,Tryz.func228.trans (congrArg some (by kernel_rfl))⟩
 f28:=Tryz.func181.trans (congrArg some (by kernel_rfl))
 f29:=Tryz.func182.trans (congrArg some (by kernel_rfl))
 f46:=⟨Tryz.f240.name,by decide,Tryz.func240.trans (congrArg some (by kernel_rfl))⟩
 f47:=Tryz.func208.trans (congrArg some (by kernel_rfl))
 f48:=Tryz.func209.trans (congrArg some (by kernel_rfl))
 f49:=⟨Tryz.f241.name,by decide,Tryz.func241.trans (congrArg some (by kernel_rfl))⟩
 f50:=⟨Tryz.f242.name,by decide,Tryz.func242.trans (congrArg some (by kernel_rfl))⟩
 f57:=⟨Tryz.f249.name,by decide,Tryz.func249.trans (congrArg some (by kernel_rfl))⟩
 t0:=Tryz.underlying0
 a0:=Tryz.isAgg0
 z0:=Tryz.sizeOf0
 v0:=Tryz.zeroValue0
 t3:=Tryz.underlying3
 a3:=Tryz.isAgg3
 z3:=Tryz.sizeOf3
 v3:=Tryz.zeroValue3
 t4:=Tryz.underlying4
 a4:=Tryz.isAgg4
 z4:=Tryz.sizeOf4
 v4:=Tryz.zeroValue4
 t5:=Tryz.underlying5
 a5:=Tryz.isAgg5
 z5:=Tryz.sizeOf5
 v5:=Tryz.zeroValue5
 t9:=Tryz.underlying9
 a9:=Tryz.isAgg9
 z9:=Tryz.sizeOf9
 v9:=Tryz.zeroValue9
 t22:=Tryz.underlying86
 a22:=Tryz.isAgg86
 z22:=Tryz.sizeOf86
 v22:=Tryz.zeroValue86
 a24:=Tryz.isAgg91
 z24:=Tryz.sizeOf91
 t25:=Tryz.underlying181
 a25:=Tryz.isAgg181
 z25:=Tryz.sizeOf181
 v25:=Tryz.zeroValue181
 t39:=Tryz.underlying131
 a39:=Tryz.isAgg131
 z39:=Tryz.sizeOf131
 v39:=Tryz.zeroValue131
 t45:=Tryz.underlying213
 a45:=Tryz.isAgg213
 z45:=Tryz.sizeOf213
 v45:=Tryz.zeroValue213
 t46:=Tryz.underlying214
 a46:=Tryz.isAgg214
 z46:=Tryz.sizeOf214
 v46:=Tryz.zeroValue214
 t50:=Tryz.underlying219
 a50:=Tryz.isAgg219
 z50:=Tryz.sizeOf219
 v50:=Tryz.zeroValue219
 t53:=Tryz.underlying222
 a53:=Tryz.isAgg222
 z53:=Tryz.sizeOf222
 v53:=Tryz.zeroValue222
 t55:=Tryz.underlying209
 a55:=Tryz.isAgg209
 z55:=Tryz.sizeOf209
 v55:=Tryz.zeroValue209
 t66:=Tryz.underlying242
 a66:=Tryz.isAgg242
 z66:=Tryz.sizeOf242
 v66:=Tryz.zeroValue242
 t70:=Tryz.underlying246
 a70:=Tryz.isAgg246
 z70:=Tryz.sizeOf246
 v70:=Tryz.zeroValue246
 t76:=Tryz.underlying270
 a76:=Tryz.isAgg270
 z76:=Tryz.sizeOf270
 v76:=Tryz.zeroValue270
 t77:=Tryz.underlying271
 a77:=Tryz.isAgg271
 z77:=Tryz.sizeOf271
 v77:=Tryz.zeroValue271 }
def Tryz.sortDisp_ren:Go.Shelf.Ren:=⟨fun|6=>119|15=>113|14=>186|28=>181|29=>182|20=>213|21=>214|22=>215|23=>216|24=>217|25=>218|26=>219|27=>220|46=>237|47=>208|48=>209|49=>238|50=>239|57=>248|n=>n,fun|22=>32|24=>116|25=>171|3=>3|39=>131|0=>0|53=>222|55=>209|4=>4|46=>214|45=>213|50=>219|5=>5|9=>9|66=>242|70=>246|76=>270|77=>271|n=>n,fun|n=>n⟩
theorem Tryz.sortDisp:Go.Proofs.SlLaysF0.n6 Tryz.prog Tryz.sortDisp_ren:={
 mixed:=by kernel_rfl
 f6:=⟨Tryz.f119.name,by decide,Tryz.func119.trans (congrArg some (by kernel_rfl))⟩
 f14:=⟨Tryz.f186.name,by decide,Tryz.func186.trans (congrArg some (by kernel_rfl))⟩
 f15:=Tryz.func113.trans (congrArg some (by kernel_rfl))
 f20:=⟨Tryz.f213.name,by decide,Tryz.func213.trans (congrArg some (by kernel_rfl))⟩
 f21:=⟨Tryz.f214.name,by decide,Tryz.func214.trans (congrArg some (by kernel_rfl))⟩
 f22:=⟨Tryz.f215.name,by decide,Tryz.func215.trans (congrArg some (by kernel_rfl))⟩
 f23:=⟨Tryz.f216.name,by decide,Tryz.func216.trans (congrArg some (by kernel_rfl))⟩
 f24:=⟨Tryz.f217.name,by decide,Tryz.func217.trans (congrArg some (by kernel_rfl))⟩
 f25:=⟨Tryz.f218.name,by decide,Tryz.func218.trans (congrArg some (by kernel_rfl))⟩
 f26:=⟨Tryz.f219.name,by decide,Tryz.func219.trans (congrArg some (by kernel_rfl))⟩
 f27:=⟨Tryz.f220.name,by decide,Tryz.func220.trans (congrArg some (by kernel_rfl))⟩
 f28:=Tryz.func181.trans (congrArg some (by kernel_rfl))
 f29:=Tryz.func182.trans (congrArg some (by kernel_rfl))
 f46:=⟨Tryz.f237.name,by decide,Tryz.func237.trans (congrArg some (by kernel_rfl))⟩
 f47:=Tryz.func208.trans (congrArg some (by kernel_rfl))
 f48:=Tryz.func209.trans (congrArg some (by kernel_rfl))
 f49:=⟨Tryz.f238.name,by decide,Tryz.func238.trans (congrArg some (by kernel_rfl))⟩
 f50:=⟨Tryz.f239.name,by decide,Tryz.func239.trans (congrArg some (by kernel_rfl))⟩
 f57:=⟨Tryz.f248.name,by decide,Tryz.func248.trans (congrArg some (by kernel_rfl))⟩
 t0:=Tryz.underlying0
 a0:=Tryz.isAgg0
 z0:=Tryz.sizeOf0
 v0:=Tryz.zeroValue0
 t3:=Tryz.underlying3
 a3:=Tryz.isAgg3
 z3:=Tryz.sizeOf3
 v3:=Tryz.zeroValue3
 t4:=Tryz.underlying4
 a4:=Tryz.isAgg4
 z4:=Tryz.sizeOf4
 v4:=Tryz.zeroValue4
 t5:=Tryz.underlying5
 a5:=Tryz.isAgg5
 z5:=Tryz.sizeOf5
 v5:=Tryz.zeroValue5
 t9:=Tryz.underlying9
 a9:=Tryz.isAgg9
 z9:=Tryz.sizeOf9
 v9:=Tryz.zeroValue9
 t22:=Tryz.underlying32
 a22:=Tryz.isAgg32
 z22:=Tryz.sizeOf32
 v22:=Tryz.zeroValue32
 t25:=Tryz.underlying171
 a25:=Tryz.isAgg171
 z25:=Tryz.sizeOf171
 v25:=Tryz.zeroValue171
 t39:=Tryz.underlying131
 a39:=Tryz.isAgg131
 z39:=Tryz.sizeOf131
 v39:=Tryz.zeroValue131
 t45:=Tryz.underlying213
 a45:=Tryz.isAgg213
 z45:=Tryz.sizeOf213
 v45:=Tryz.zeroValue213
 t46:=Tryz.underlying214
 a46:=Tryz.isAgg214
 z46:=Tryz.sizeOf214
 v46:=Tryz.zeroValue214
 t50:=Tryz.underlying219
 a50:=Tryz.isAgg219
 z50:=Tryz.sizeOf219
 v50:=Tryz.zeroValue219
 t53:=Tryz.underlying222
 a53:=Tryz.isAgg222
 z53:=Tryz.sizeOf222
 v53:=Tryz.zeroValue222
 t55:=Tryz.underlying209
 a55:=Tryz.isAgg209
 z55:=Tryz.sizeOf209
 v55:=Tryz.zeroValue209
 t66:=Tryz.underlying242
 a66:=Tryz.isAgg242
 z66:=Tryz.sizeOf242
 v66:=Tryz.zeroValue242
 t70:=Tryz.underlying246
 a70:=Tryz.isAgg246
 z70:=Tryz.sizeOf246
 v70:=Tryz.zeroValue246
 t76:=Tryz.underlying270
 a76:=Tryz.isAgg270
 z76:=Tryz.sizeOf270
 v76:=Tryz.zeroValue270
 t77:=Tryz.underlying271
 a77:=Tryz.isAgg271
 z77:=Tryz.sizeOf271
 v77:=Tryz.zeroValue271 }
def Tryz.sortStr_ren:Go.Shelf.Ren:=⟨fun|6=>52|8=>113|9=>112|19=>181|20=>182|21=>172|22=>173|23=>174|24=>175|25=>176|26=>177|27=>178|28=>179|29=>180|36=>207|31=>208|32=>209|37=>210|38=>211|39=>187|41=>236|n=>n,fun|27=>39|29=>9|3=>3|32=>131|26=>39|0=>0|44=>222|46=>209|4=>4|36=>214|35=>213|41=>219|5=>5|9=>9|53=>242|57=>246|63=>270|64=>271|n=>n,fun|n=>n⟩
theorem Tryz.sortStr:Go.Proofs.SlLaysM.n6 Tryz.prog Tryz.sortStr_ren:={
 mixed:=by kernel_rfl
 f6:=⟨Tryz.f52.name,by decide,Tryz.func52.trans (congrArg some (by kernel_rfl))⟩
 f8:=Tryz.func113.trans (congrArg some (by kernel_rfl))
 f9:=⟨Tryz.f112.name,by decide,Tryz.func112.trans (congrArg some (by kernel_rfl))⟩
 f19:=Tryz.func181.trans (congrArg some (by kernel_rfl))
 f20:=Tryz.func182.trans (congrArg some (by kernel_rfl))
 f21:=⟨Tryz.f172.name,by decide,Tryz.func172.trans (congrArg some (by kernel_rfl))⟩
 f22:=⟨Tryz.f173.name,by decide,Tryz.func173.trans (congrArg some (by kernel_rfl))⟩
 f23:=⟨Tryz.f174.name,by decide,Tryz.func174.trans (congrArg some (by kernel_rfl))⟩
 f24:=⟨Tryz.f175.name,by decide,Tryz.func175.trans (congrArg some (by kernel_rfl))⟩
 f25:=⟨Tryz.f176.name,by decide,Tryz.func176.trans (congrArg some (by kernel_rfl))⟩
 f26:=⟨Tryz.f177.name,by decide,Tryz.func177.trans (congrArg some (by kernel_rfl))⟩
 f27:=⟨Tryz.f178.name,by decide,Tryz.func178.trans (congrArg some (by kernel_rfl))⟩
 f28:=⟨Tryz.f179.name,by decide,Tryz.func179.trans (congrArg some (by kernel_rfl))⟩
 f29:=⟨Tryz.f180.name,by decide,Tryz.func180.trans (congrArg some (by kernel_rfl))⟩
 f31:=Tryz.func208.trans (congrArg some (by kernel_rfl))
 f32:=Tryz.func209.trans (congrArg some (by kernel_rfl))
 f36:=⟨Tryz.f207.name,by decide,Tryz.func207.trans (congrArg some (by kernel_rfl))⟩
 f37:=⟨Tryz.f210.name,by decide,Tryz.func210.trans (congrArg some (by kernel_rfl))⟩
 f38:=⟨Tryz.f211.name,by decide,Tryz.func211.trans (congrArg some (by kernel_rfl))⟩
 f39:=⟨Tryz.f187.name,by decide,Tryz.func187.trans (congrArg some (by kernel_rfl))⟩
 f41:=⟨Tryz.f236.name,by decide,Tryz.func236.trans (congrArg some (by kernel_rfl))⟩
 t0:=Tryz.underlying0
 a0:=Tryz.isAgg0
 z0:=Tryz.sizeOf0
 v0:=Tryz.zeroValue0
 t3:=Tryz.underlying3
 a3:=Tryz.isAgg3
 z3:=Tryz.sizeOf3
 v3:=Tryz.zeroValue3
 t4:=Tryz.underlying4
 a4:=Tryz.isAgg4
 z4:=Tryz.sizeOf4
 v4:=Tryz.zeroValue4
 t5:=Tryz.underlying5
 a5:=Tryz.isAgg5
 z5:=Tryz.sizeOf5
 v5:=Tryz.zeroValue5
 t9:=Tryz.underlying9
 a9:=Tryz.isAgg9
 z9:=Tryz.sizeOf9
 v9:=Tryz.zeroValue9
 t26:=Tryz.underlying39
 a26:=Tryz.isAgg39
 z26:=Tryz.sizeOf39
 v26:=Tryz.zeroValue39
 t27:=Tryz.underlying39
 a27:=Tryz.isAgg39
 z27:=Tryz.sizeOf39
 v27:=Tryz.zeroValue39
 t29:=Tryz.underlying9
 a29:=Tryz.isAgg9
 z29:=Tryz.sizeOf9
 v29:=Tryz.zeroValue9
 t32:=Tryz.underlying131
 a32:=Tryz.isAgg131
 z32:=Tryz.sizeOf131
 v32:=Tryz.zeroValue131
 t35:=Tryz.underlying213
 a35:=Tryz.isAgg213
 z35:=Tryz.sizeOf213
 v35:=Tryz.zeroValue213
 t36:=Tryz.underlying214
 a36:=Tryz.isAgg214
 z36:=Tryz.sizeOf214
 v36:=Tryz.zeroValue214
 t41:=Tryz.underlying219
 a41:=Tryz.isAgg219
 z41:=Tryz.sizeOf219
 v41:=Tryz.zeroValue219
 t44:=Tryz.underlying222
 a44:=Tryz.isAgg222
 z44:=Tryz.sizeOf222
 v44:=Tryz.zeroValue222
 t46:=Tryz.underlying209
 a46:=Tryz.isAgg209
 z46:=Tryz.sizeOf209
 v46:=Tryz.zeroValue209
 t53:=Tryz.underlying242
 a53:=Tryz.isAgg242
 z53:=Tryz.sizeOf242
 v53:=Tryz.zeroValue242
 t57:=Tryz.underlying246
 a57:=Tryz.isAgg246
 z57:=Tryz.sizeOf246
 v57:=Tryz.zeroValue246
 t63:=Tryz.underlying270
 a63:=Tryz.isAgg270
 z63:=Tryz.sizeOf270
 v63:=Tryz.zeroValue270
 t64:=Tryz.underlying271
 a64:=Tryz.isAgg271
 z64:=Tryz.sizeOf271
 v64:=Tryz.zeroValue271 }
def Tryz.keysR_ren:Go.Shelf.Ren:=⟨fun|7=>55|10=>116|n=>n,fun|23=>89|26=>9|3=>84|28=>99|0=>0|27=>98|33=>76|4=>4|n=>n,fun|n=>n⟩
theorem Tryz.keysR:Go.Proofs.SlLaysZ.n7 Tryz.prog Tryz.keysR_ren:={
 mixed:=by kernel_rfl
 f7:=⟨Tryz.f55.name,by decide,Tryz.func55.trans (congrArg some (by kernel_rfl))⟩
 f10:=⟨Tryz.f116.name,by decide,Tryz.func116.trans (congrArg some (by kernel_rfl))⟩
 t0:=Tryz.underlying0
 a0:=Tryz.isAgg0
 z0:=Tryz.sizeOf0
 v0:=Tryz.zeroValue0
 t4:=Tryz.underlying4
 a4:=Tryz.isAgg4
 z4:=Tryz.sizeOf4
 v4:=Tryz.zeroValue4
 t23:=Tryz.underlying89
 a23:=Tryz.isAgg89
 z23:=Tryz.sizeOf89
 v23:=Tryz.zeroValue89
 t26:=Tryz.underlying9
 a26:=Tryz.isAgg9
 z26:=Tryz.sizeOf9
 v26:=Tryz.zeroValue9
 t27:=Tryz.underlying98
 a27:=Tryz.isAgg98
 z27:=Tryz.sizeOf98
 v27:=Tryz.zeroValue98
 t28:=Tryz.underlying99
 a28:=Tryz.isAgg99
 z28:=Tryz.sizeOf99
 v28:=Tryz.zeroValue99
 t33:=Tryz.underlying76
 a33:=Tryz.isAgg76
 z33:=Tryz.sizeOf76
 v33:=Tryz.zeroValue76 }
def Tryz.keysI_ren:Go.Shelf.Ren:=⟨fun|7=>56|10=>117|n=>n,fun|23=>90|26=>9|3=>96|28=>99|0=>0|27=>98|33=>76|4=>4|n=>n,fun|n=>n⟩
theorem Tryz.keysI:Go.Proofs.SlLaysZ.n7 Tryz.prog Tryz.keysI_ren:={
 mixed:=by kernel_rfl
 f7:=⟨Tryz.f56.name,by decide,Tryz.func56.trans (congrArg some (by kernel_rfl))⟩
 f10:=⟨Tryz.f117.name,by decide,Tryz.func117.trans (congrArg some (by kernel_rfl))⟩
 t0:=Tryz.underlying0
 a0:=Tryz.isAgg0
 z0:=Tryz.sizeOf0
 v0:=Tryz.zeroValue0
 t4:=Tryz.underlying4
 a4:=Tryz.isAgg4
 z4:=Tryz.sizeOf4
 v4:=Tryz.zeroValue4
 t23:=Tryz.underlying90
 a23:=Tryz.isAgg90
 z23:=Tryz.sizeOf90
 v23:=Tryz.zeroValue90
 t26:=Tryz.underlying9
 a26:=Tryz.isAgg9
 z26:=Tryz.sizeOf9
 v26:=Tryz.zeroValue9
 t27:=Tryz.underlying98
 a27:=Tryz.isAgg98
 z27:=Tryz.sizeOf98
 v27:=Tryz.zeroValue98
 t28:=Tryz.underlying99
 a28:=Tryz.isAgg99
 z28:=Tryz.sizeOf99
 v28:=Tryz.zeroValue99
 t33:=Tryz.underlying76
 a33:=Tryz.isAgg76
 z33:=Tryz.sizeOf76
 v33:=Tryz.zeroValue76 }
def Tryz.sortedS_ren:Go.Shelf.Ren:=⟨fun|6=>54|8=>115|9=>52|11=>185|13=>113|12=>112|23=>181|24=>182|14=>172|15=>173|16=>174|17=>175|18=>176|19=>177|20=>178|21=>179|22=>180|25=>207|26=>208|27=>209|28=>210|29=>211|30=>187|31=>236|n=>n,fun|26=>9|28=>99|24=>39|0=>0|3=>3|37=>131|48=>222|50=>209|4=>4|40=>214|39=>213|45=>219|5=>5|9=>9|51=>242|55=>246|57=>270|58=>271|33=>76|n=>n,fun|n=>n⟩
theorem Tryz.sortedS:Go.Proofs.SlLaysZ.n6 Tryz.prog Tryz.sortedS_ren:={
 mixed:=by kernel_rfl
 f6:=⟨Tryz.f54.name,by decide,Tryz.func54.trans (congrArg some (by kernel_rfl))⟩
 f8:=⟨Tryz.f115.name,by decide,Tryz.func115.trans (congrArg some (by kernel_rfl))⟩
 f11:=⟨Tryz.f185.name,by decide,Tryz.func185.trans (congrArg some (by kernel_rfl))⟩
 t0:=Tryz.underlying0
 a0:=Tryz.isAgg0
 z0:=Tryz.sizeOf0
 v0:=Tryz.zeroValue0
 t24:=Tryz.underlying39
 a24:=Tryz.isAgg39
 z24:=Tryz.sizeOf39
 v24:=Tryz.zeroValue39
 t26:=Tryz.underlying9
 a26:=Tryz.isAgg9
 z26:=Tryz.sizeOf9
 v26:=Tryz.zeroValue9
 t28:=Tryz.underlying99
 a28:=Tryz.isAgg99
 z28:=Tryz.sizeOf99
 v28:=Tryz.zeroValue99
 i26:=by kernel_rfl }
end Go.Proofs
namespace Go.Proofs.YtknpbekoenbphaaGreatDoor
open Go Go.RowKit Licit
theorem kot {n:Nat}:∀xs:List Nat,(∀i∈xs,i<n)→∃ys:List (Fin n),ys.map Fin.val=xs
 | [],_=>⟨[],rfl⟩
 |a :: r,h=>by
  obtain ⟨ys,e⟩:=kot r fun i hi=>h i (List.mem_cons_of_mem _ hi)
  exact ⟨⟨a,h a (by simp)⟩ :: ys,by rw [List.map_cons,e]⟩
def cfN (S:Rv.Stt) (ids:List Bs) {n:Nat} (i j:Fin n):Int:=or2 (Lib.compareInt (Rv.rankI S i.val:Int) (Rv.rankI S j.val:Int)) (kg4 (ids.getD i.val []) (ids.getD j.val []))
theorem ltN (S:Rv.Stt) (ids:List Bs) {n:Nat}:ltOf (cfN S ids (n:=n))=fun i j=>Rv.befN (Rv.rankI S i.val) (Rv.rankI S j.val) (ids.getD i.val []) (ids.getD j.val []):=by
 funext i j
 unfold ltOf cfN or2 Lib.compareInt kg4 Rv.befN;generalize ids.getD i.val []=x;generalize ids.getD j.val []=y
 by_cases a:Rv.rankI S i.val=Rv.rankI S j.val
 ·rw [if_pos a,a]
  simp only [Int.lt_irrefl,if_false,if_true]
  cases h1:Rv.ltB x y
  ·cases h2:Rv.ltB y x <;> simp
  ·simp
 ·rw [if_neg a]
  rcases Nat.lt_or_gt_of_ne a with c|c
  ·have:(Rv.rankI S i.val:Int)<(Rv.rankI S j.val:Int):=by omega
   simp [this,c]
  ·have h1:¬ (Rv.rankI S i.val:Int)<(Rv.rankI S j.val:Int):=by omega
   have h2:(Rv.rankI S j.val:Int)<(Rv.rankI S i.val:Int):=by omega
   have h3:¬ Rv.rankI S i.val<Rv.rankI S j.val:=by omega
   simp [h1,h2,h3]
theorem ks1 {S:Rv.Stt} {i:Nat} {row:Rv.Row} (h:S.getD i none=some row):Rv.rankI S i=row.1:=by unfold Rv.rankI;rw [h];rfl
theorem kpv (l:List Rv.Ev) (ids:List Bs) (S:Rv.Stt) (pt pb:Nat→Nat) (xs:List Nat) (w0 w:World) (base b cap:Nat) (hown:w.ownsRow base 91 1 (.slice (some ⟨b,0,none⟩) xs.length cap) xs.length (xs.map fun i=>ptr (pt i)))
 (hp:xs.Perm (List.range l.length)) (h0:0<l.length) (hm:l.length≤1024) (hlen:S.length=l.length) (hinj:∀i j,i<l.length→j<l.length→ids.getD i []=ids.getD j []→i=j)
 (hn:∀i,i<l.length→∃row,S.getD i none=some row∧kd4 ids (l.getD i Rv.ev0) i row (pt i) (pb i) w0 w) (hbn:∀i,i<l.length→pt i≠b) :
 Calls Tryz.prog 133 #[.slice (some ⟨b,0,none⟩) xs.length cap,.func (.func 134) #[] #[]] w fun en w'=>en = .returned (.tuple #[])∧w'.ownsRow base 91 1 (.slice (some ⟨b,0,none⟩) xs.length cap) xs.length ((Rv.ordI S ids).map fun i=>ptr (pt i))∧ka7 (Licit.One b) w w':=by
 haveI:Inhabited (Fin l.length):=⟨⟨0,h0⟩⟩
 obtain ⟨ys,hys⟩:=kot (n:=l.length) xs fun i hi=>List.mem_range.1 (hp.mem_iff.1 hi)
 have hl:xs.length=ys.length:=by rw [←hys,List.length_map]
 have hxl:xs.length=l.length:=by rw [hp.length_eq,List.length_range]
 have hmap:(xs.map fun i=>ptr (pt i))=ys.map fun i=>ptr (pt i.val):=by rw [←hys,List.map_map];rfl
 rw [hmap,hl] at hown;have eg:∀args w,(callFunc 134 args).run Tryz.prog w = .ok (.enter 134 args) w:=enters_of Tryz.func134 (by kernel_rfl) rfl
 have hS:=kx4 Tryz.sortNode (fun i:Fin l.length=>ptr (pt i.val)) (fun _=>rfl) (cfN S ids) (by rw [ltN];exact Rv.befN_swo (fun i:Fin l.length=>Rv.rankI S i.val) (fun i=>ids.getD i.val [])) (fun x y h1 h2=>by
  rw [ltN] at h1 h2;exact Fin.ext (hinj _ _ x.isLt y.isLt (Rv.befN_tot h1 h2).2)) 134 eg ys w base b cap 91 hown (by omega) (fun W hk x y=>by
  obtain ⟨rx,hx,nx⟩:=hn x.val x.isLt;obtain ⟨ry,hy,ny⟩:=hn y.val y.isLt;have cx:=nx.cells;have cy:=ny.cells;have hbx:∀o v,w.cell? ⟨pt x.val,o,none⟩=some v→W.cell? ⟨pt x.val,o,none⟩=some v:=fun o v h=>(hk.cell (b:=pt x.val) (o:=o) nx.lt.1 (hbn _ x.isLt)).trans h
  have hby:∀o v,w.cell? ⟨pt y.val,o,none⟩=some v→W.cell? ⟨pt y.val,o,none⟩=some v:=fun o v h=>(hk.cell (b:=pt y.val) (o:=o) ny.lt.1 (hbn _ y.isLt)).trans h
  have:=kth (pt x.val) (pt y.val) (ids.getD x.val []) (ids.getD y.val []) (rx.1:Int) (ry.1:Int) W (hbx _ _ cx.1) (hbx _ _ cx.2.2.1) (hby _ _ cy.1) (hby _ _ cy.2.2.1)
  unfold cfN;rw [ks1 hx,ks1 hy];exact this)
 rw [hl];refine hS.mono ?_;rintro en w' ⟨rfl,ho,hk⟩;refine ⟨rfl,?_,hk⟩
 have e:((ys.mergeSort fun x y=>!(ltOf (cfN S ids)) y x).map Fin.val)=Rv.ordI S ids:=by
  have hO:Sort.SWO (ltOf (cfN S ids (n:=l.length))):=by rw [ltN];exact Rv.befN_swo (fun i:Fin l.length=>Rv.rankI S i.val) (fun i=>ids.getD i.val [])
  refine Rv.ordI_only (by rw [hlen];exact hinj) ?_ ?_
  ·rw [hlen]
   refine ((List.mergeSort_perm _ _).map Fin.val).trans ?_;rw [hys];exact hp
  ·refine List.pairwise_map.2 ?_
   have hs:=List.pairwise_mergeSort (le:=fun x y:Fin l.length=>!(ltOf (cfN S ids)) y x) (fun a b c h1 h2=>by
    simp only [Bool.not_eq_true'] at h1 h2 ⊢;exact hO.ntrans _ _ _ h2 h1) (fun a b=>by
    cases h1:ltOf (cfN S ids) b a with
    |false=>simp
    |true=>simp [Rv.swo_asymm hO h1]) ys
   refine hs.imp fun {a b} h=>?_
   simp only [Bool.not_eq_true'] at h;rw [ltN] at h;exact h
 have e2:(ys.mergeSort fun x y=>!(ltOf (cfN S ids)) y x).map (fun i:Fin l.length=>ptr (pt i.val))=(Rv.ordI S ids).map fun i=>ptr (pt i):=by
  rw [←e,List.map_map];rfl
 rw [e2] at ho;exact ho
theorem kry (a:Option Addr) (cap:Nat) (w:World):Calls Tryz.prog 133 #[.slice a 0 cap,.func (.func 134) #[] #[]] w fun en w'=>en = .returned (.tuple #[])∧w'=w:=by
 have hS:=AnyF.slices_SortFunc_none (P:=Tryz.prog) (ρ:=Tryz.sortNode_ren) { Tryz.sortNode with } a cap (.func (.func 134) #[] #[]) w;exact hS
theorem kh4 {α β:Type} (f:α→β):∀(D:List α) (V:List β),V.Perm (D.map f)→∃xs:List α,xs.Perm D∧xs.map f=V
 | [],V,h=>⟨[],List.Perm.refl _,(List.Perm.eq_nil h).symm⟩
 |d :: r,V,h=>by
  have hm:f d∈V:=h.mem_iff.2 (by simp);obtain ⟨V1,V2,rfl⟩:=List.append_of_mem hm;have h2:(V1++V2).Perm (r.map f):=(List.perm_cons (f d)).1 (List.perm_middle.symm.trans h);obtain ⟨ys,hy,he⟩:=kh4 f r _ h2;obtain ⟨y1,y2,rfl,e1,e2⟩:=List.map_eq_append_iff.1 he;exact ⟨y1++d :: y2,List.perm_middle.trans (hy.cons d),by rw [List.map_append,List.map_cons,e1,e2]⟩
open Classical in
theorem nodup_le {α:Type}:∀(V L:List α),V.Nodup→(∀x∈V,x∈L)→V.length≤L.length
 | [],_,_,_=>Nat.zero_le _
 |a :: r,L,hn,hs=>by
  have h1:=List.nodup_cons.1 hn;have ha:a∈L:=hs a (by simp)
  have:=nodup_le r (L.erase a) h1.2 fun x hx=>(List.mem_erase_of_ne (fun e=>h1.1 (by rw [←e];exact hx))).2 (hs x (by simp [hx]))
  rw [List.length_erase_of_mem ha] at this;have hp:=List.length_pos_of_mem ha;simp only [List.length_cons];omega
end Go.Proofs.YtknpbekoenbphaaGreatDoor
