import Derived.Test.YtdiokmmjdpbdbaaProg
import Derived.KernelRfl
import Derived.Test.YtdiokmmjdpbdbaaP3
namespace Go.Proofs.Ytdiokmmjdpbdbaa
open PG Go.Proofs
-- wagebook/order.ring
def L31r : List Nat := [0, 1, 2, 4, 5, 6, 7, 8, 9, 10, 18, 36]
def c31r : CF := ⟨38,
  .seq (.region false [⟨some 4, none, .eff (.box none) [.tmp 1]⟩,
     ⟨some 5, none, .eff (.box none) [.tmp 2]⟩,
     ⟨some 6, none, .rd .mov [.pv .nilSl]⟩] L31r)
  (.seq (.region false [⟨some 11, none, .rd (.load none) [.tmp 5]⟩,
     ⟨some 12, none, .eff (.lit none true) [.tmp 11]⟩,
     ⟨some 7, none, .rd .mov [.tmp 12]⟩] L31r)
  (.seq (.seq (.regionA (.alt [⟨some 13, none, .rd (.load none) [.tmp 5]⟩]
      (.alt [⟨some 14, none, .rd (.load none) [.tmp 4]⟩]
       (.alt [⟨some 15, none, .rd (.load none) [.tmp 5]⟩]
        (.alt [⟨some 16, none, .rd (.look .str false (.int .i64 0)) [.tmp 14, .tmp 15]⟩,
          ⟨some 9, none, .eff (.alloc none (.int .i64 0)) []⟩,
          ⟨some 8, none, .rd .mov [.tmp 13]⟩,
          ⟨none, none, .eff (.store none) [.tmp 9, .tmp 16]⟩]
         .done
         (.alt [⟨some 9, none, .eff (.alloc none (.int .i64 0)) []⟩,
           ⟨some 8, none, .rd .mov [.tmp 13]⟩,
           ⟨some 16, none, .rd (.look .str false (.int .i64 0)) [.tmp 14, .tmp 15]⟩,
           ⟨none, none, .eff (.store none) [.tmp 9, .tmp 16]⟩]
          .done
          .stop))
        (.alt [⟨some 9, none, .eff (.alloc none (.int .i64 0)) []⟩,
          ⟨some 8, none, .rd .mov [.tmp 13]⟩,
          ⟨some 15, none, .rd (.load none) [.tmp 5]⟩,
          ⟨some 16, none, .rd (.look .str false (.int .i64 0)) [.tmp 14, .tmp 15]⟩,
          ⟨none, none, .eff (.store none) [.tmp 9, .tmp 16]⟩]
         .done
         .stop))
       (.alt [⟨some 15, none, .rd (.load none) [.tmp 5]⟩]
        (.alt [⟨some 14, none, .rd (.load none) [.tmp 4]⟩]
         (.alt [⟨some 16, none, .rd (.look .str false (.int .i64 0)) [.tmp 14, .tmp 15]⟩,
           ⟨some 9, none, .eff (.alloc none (.int .i64 0)) []⟩,
           ⟨some 8, none, .rd .mov [.tmp 13]⟩,
           ⟨none, none, .eff (.store none) [.tmp 9, .tmp 16]⟩]
          .done
          (.alt [⟨some 9, none, .eff (.alloc none (.int .i64 0)) []⟩,
            ⟨some 8, none, .rd .mov [.tmp 13]⟩,
            ⟨some 16, none, .rd (.look .str false (.int .i64 0)) [.tmp 14, .tmp 15]⟩,
            ⟨none, none, .eff (.store none) [.tmp 9, .tmp 16]⟩]
           .done
           .stop))
         (.alt [⟨some 9, none, .eff (.alloc none (.int .i64 0)) []⟩,
           ⟨some 8, none, .rd .mov [.tmp 13]⟩,
           ⟨some 14, none, .rd (.load none) [.tmp 4]⟩,
           ⟨some 16, none, .rd (.look .str false (.int .i64 0)) [.tmp 14, .tmp 15]⟩,
           ⟨none, none, .eff (.store none) [.tmp 9, .tmp 16]⟩]
          .done
          .stop))
        (.alt [⟨some 9, none, .eff (.alloc none (.int .i64 0)) []⟩,
          ⟨some 8, none, .rd .mov [.tmp 13]⟩]
         (.alt [⟨some 14, none, .rd (.load none) [.tmp 4]⟩,
           ⟨some 15, none, .rd (.load none) [.tmp 5]⟩,
           ⟨some 16, none, .rd (.look .str false (.int .i64 0)) [.tmp 14, .tmp 15]⟩,
           ⟨none, none, .eff (.store none) [.tmp 9, .tmp 16]⟩]
          .done
          (.alt [⟨some 15, none, .rd (.load none) [.tmp 5]⟩,
            ⟨some 14, none, .rd (.load none) [.tmp 4]⟩,
            ⟨some 16, none, .rd (.look .str false (.int .i64 0)) [.tmp 14, .tmp 15]⟩,
            ⟨none, none, .eff (.store none) [.tmp 9, .tmp 16]⟩]
           .done
           .stop))
         .stop)))
      (.alt [⟨some 14, none, .rd (.load none) [.tmp 4]⟩]
       (.alt [⟨some 13, none, .rd (.load none) [.tmp 5]⟩]
        (.alt [⟨some 15, none, .rd (.load none) [.tmp 5]⟩]
         (.alt [⟨some 16, none, .rd (.look .str false (.int .i64 0)) [.tmp 14, .tmp 15]⟩,
           ⟨some 9, none, .eff (.alloc none (.int .i64 0)) []⟩,
           ⟨some 8, none, .rd .mov [.tmp 13]⟩,
           ⟨none, none, .eff (.store none) [.tmp 9, .tmp 16]⟩]
          .done
          (.alt [⟨some 9, none, .eff (.alloc none (.int .i64 0)) []⟩,
            ⟨some 8, none, .rd .mov [.tmp 13]⟩,
            ⟨some 16, none, .rd (.look .str false (.int .i64 0)) [.tmp 14, .tmp 15]⟩,
            ⟨none, none, .eff (.store none) [.tmp 9, .tmp 16]⟩]
           .done
           .stop))
         (.alt [⟨some 9, none, .eff (.alloc none (.int .i64 0)) []⟩,
           ⟨some 8, none, .rd .mov [.tmp 13]⟩,
           ⟨some 15, none, .rd (.load none) [.tmp 5]⟩,
           ⟨some 16, none, .rd (.look .str false (.int .i64 0)) [.tmp 14, .tmp 15]⟩,
           ⟨none, none, .eff (.store none) [.tmp 9, .tmp 16]⟩]
          .done
          .stop))
        (.alt [⟨some 15, none, .rd (.load none) [.tmp 5]⟩]
         (.alt [⟨some 13, none, .rd (.load none) [.tmp 5]⟩]
          (.alt [⟨some 16, none, .rd (.look .str false (.int .i64 0)) [.tmp 14, .tmp 15]⟩,
            ⟨some 9, none, .eff (.alloc none (.int .i64 0)) []⟩,
            ⟨some 8, none, .rd .mov [.tmp 13]⟩,
            ⟨none, none, .eff (.store none) [.tmp 9, .tmp 16]⟩]
           .done
           (.alt [⟨some 9, none, .eff (.alloc none (.int .i64 0)) []⟩,
             ⟨some 8, none, .rd .mov [.tmp 13]⟩,
             ⟨some 16, none, .rd (.look .str false (.int .i64 0)) [.tmp 14, .tmp 15]⟩,
             ⟨none, none, .eff (.store none) [.tmp 9, .tmp 16]⟩]
            .done
            .stop))
          (.alt [⟨some 16, none, .rd (.look .str false (.int .i64 0)) [.tmp 14, .tmp 15]⟩]
           (.alt [⟨some 13, none, .rd (.load none) [.tmp 5]⟩,
             ⟨some 9, none, .eff (.alloc none (.int .i64 0)) []⟩,
             ⟨some 8, none, .rd .mov [.tmp 13]⟩,
             ⟨none, none, .eff (.store none) [.tmp 9, .tmp 16]⟩]
            .done
            (.alt [⟨some 9, none, .eff (.alloc none (.int .i64 0)) []⟩,
              ⟨some 13, none, .rd (.load none) [.tmp 5]⟩,
              ⟨some 8, none, .rd .mov [.tmp 13]⟩,
              ⟨none, none, .eff (.store none) [.tmp 9, .tmp 16]⟩]
             .done
             .stop))
           (.alt [⟨some 9, none, .eff (.alloc none (.int .i64 0)) []⟩]
            (.alt [⟨some 13, none, .rd (.load none) [.tmp 5]⟩,
              ⟨some 8, none, .rd .mov [.tmp 13]⟩,
              ⟨some 16, none, .rd (.look .str false (.int .i64 0)) [.tmp 14, .tmp 15]⟩,
              ⟨none, none, .eff (.store none) [.tmp 9, .tmp 16]⟩]
             .done
             (.alt [⟨some 16, none, .rd (.look .str false (.int .i64 0)) [.tmp 14, .tmp 15]⟩,
               ⟨some 13, none, .rd (.load none) [.tmp 5]⟩,
               ⟨some 8, none, .rd .mov [.tmp 13]⟩,
               ⟨none, none, .eff (.store none) [.tmp 9, .tmp 16]⟩]
              .done
              .stop))
            .stop)))
         (.alt [⟨some 9, none, .eff (.alloc none (.int .i64 0)) []⟩]
          (.alt [⟨some 13, none, .rd (.load none) [.tmp 5]⟩,
            ⟨some 8, none, .rd .mov [.tmp 13]⟩,
            ⟨some 15, none, .rd (.load none) [.tmp 5]⟩,
            ⟨some 16, none, .rd (.look .str false (.int .i64 0)) [.tmp 14, .tmp 15]⟩,
            ⟨none, none, .eff (.store none) [.tmp 9, .tmp 16]⟩]
           .done
           (.alt [⟨some 15, none, .rd (.load none) [.tmp 5]⟩]
            (.alt [⟨some 13, none, .rd (.load none) [.tmp 5]⟩,
              ⟨some 8, none, .rd .mov [.tmp 13]⟩,
              ⟨some 16, none, .rd (.look .str false (.int .i64 0)) [.tmp 14, .tmp 15]⟩,
              ⟨none, none, .eff (.store none) [.tmp 9, .tmp 16]⟩]
             .done
             (.alt [⟨some 16, none, .rd (.look .str false (.int .i64 0)) [.tmp 14, .tmp 15]⟩,
               ⟨some 13, none, .rd (.load none) [.tmp 5]⟩,
               ⟨some 8, none, .rd .mov [.tmp 13]⟩,
               ⟨none, none, .eff (.store none) [.tmp 9, .tmp 16]⟩]
              .done
              .stop))
            .stop))
          .stop)))
       (.alt [⟨some 15, none, .rd (.load none) [.tmp 5]⟩]
        (.alt [⟨some 13, none, .rd (.load none) [.tmp 5]⟩]
         (.alt [⟨some 14, none, .rd (.load none) [.tmp 4]⟩]
          (.alt [⟨some 16, none, .rd (.look .str false (.int .i64 0)) [.tmp 14, .tmp 15]⟩,
            ⟨some 9, none, .eff (.alloc none (.int .i64 0)) []⟩,
            ⟨some 8, none, .rd .mov [.tmp 13]⟩,
            ⟨none, none, .eff (.store none) [.tmp 9, .tmp 16]⟩]
           .done
           (.alt [⟨some 9, none, .eff (.alloc none (.int .i64 0)) []⟩,
             ⟨some 8, none, .rd .mov [.tmp 13]⟩,
             ⟨some 16, none, .rd (.look .str false (.int .i64 0)) [.tmp 14, .tmp 15]⟩,
             ⟨none, none, .eff (.store none) [.tmp 9, .tmp 16]⟩]
            .done
            .stop))
          (.alt [⟨some 9, none, .eff (.alloc none (.int .i64 0)) []⟩,
            ⟨some 8, none, .rd .mov [.tmp 13]⟩,
            ⟨some 14, none, .rd (.load none) [.tmp 4]⟩,
            ⟨some 16, none, .rd (.look .str false (.int .i64 0)) [.tmp 14, .tmp 15]⟩,
            ⟨none, none, .eff (.store none) [.tmp 9, .tmp 16]⟩]
           .done
           .stop))
         (.alt [⟨some 14, none, .rd (.load none) [.tmp 4]⟩]
          (.alt [⟨some 13, none, .rd (.load none) [.tmp 5]⟩]
           (.alt [⟨some 16, none, .rd (.look .str false (.int .i64 0)) [.tmp 14, .tmp 15]⟩,
             ⟨some 9, none, .eff (.alloc none (.int .i64 0)) []⟩,
             ⟨some 8, none, .rd .mov [.tmp 13]⟩,
             ⟨none, none, .eff (.store none) [.tmp 9, .tmp 16]⟩]
            .done
            (.alt [⟨some 9, none, .eff (.alloc none (.int .i64 0)) []⟩,
              ⟨some 8, none, .rd .mov [.tmp 13]⟩,
              ⟨some 16, none, .rd (.look .str false (.int .i64 0)) [.tmp 14, .tmp 15]⟩,
              ⟨none, none, .eff (.store none) [.tmp 9, .tmp 16]⟩]
             .done
             .stop))
           (.alt [⟨some 16, none, .rd (.look .str false (.int .i64 0)) [.tmp 14, .tmp 15]⟩]
            (.alt [⟨some 13, none, .rd (.load none) [.tmp 5]⟩,
              ⟨some 9, none, .eff (.alloc none (.int .i64 0)) []⟩,
              ⟨some 8, none, .rd .mov [.tmp 13]⟩,
              ⟨none, none, .eff (.store none) [.tmp 9, .tmp 16]⟩]
             .done
             (.alt [⟨some 9, none, .eff (.alloc none (.int .i64 0)) []⟩,
               ⟨some 13, none, .rd (.load none) [.tmp 5]⟩,
               ⟨some 8, none, .rd .mov [.tmp 13]⟩,
               ⟨none, none, .eff (.store none) [.tmp 9, .tmp 16]⟩]
              .done
              .stop))
            (.alt [⟨some 9, none, .eff (.alloc none (.int .i64 0)) []⟩]
             (.alt [⟨some 13, none, .rd (.load none) [.tmp 5]⟩,
               ⟨some 8, none, .rd .mov [.tmp 13]⟩,
               ⟨some 16, none, .rd (.look .str false (.int .i64 0)) [.tmp 14, .tmp 15]⟩,
               ⟨none, none, .eff (.store none) [.tmp 9, .tmp 16]⟩]
              .done
              (.alt [⟨some 16, none, .rd (.look .str false (.int .i64 0)) [.tmp 14, .tmp 15]⟩,
                ⟨some 13, none, .rd (.load none) [.tmp 5]⟩,
                ⟨some 8, none, .rd .mov [.tmp 13]⟩,
                ⟨none, none, .eff (.store none) [.tmp 9, .tmp 16]⟩]
               .done
               .stop))
             .stop)))
          (.alt [⟨some 9, none, .eff (.alloc none (.int .i64 0)) []⟩]
           (.alt [⟨some 13, none, .rd (.load none) [.tmp 5]⟩,
             ⟨some 8, none, .rd .mov [.tmp 13]⟩,
             ⟨some 14, none, .rd (.load none) [.tmp 4]⟩,
             ⟨some 16, none, .rd (.look .str false (.int .i64 0)) [.tmp 14, .tmp 15]⟩,
             ⟨none, none, .eff (.store none) [.tmp 9, .tmp 16]⟩]
            .done
            (.alt [⟨some 14, none, .rd (.load none) [.tmp 4]⟩]
             (.alt [⟨some 13, none, .rd (.load none) [.tmp 5]⟩,
               ⟨some 8, none, .rd .mov [.tmp 13]⟩,
               ⟨some 16, none, .rd (.look .str false (.int .i64 0)) [.tmp 14, .tmp 15]⟩,
               ⟨none, none, .eff (.store none) [.tmp 9, .tmp 16]⟩]
              .done
              (.alt [⟨some 16, none, .rd (.look .str false (.int .i64 0)) [.tmp 14, .tmp 15]⟩,
                ⟨some 13, none, .rd (.load none) [.tmp 5]⟩,
                ⟨some 8, none, .rd .mov [.tmp 13]⟩,
                ⟨none, none, .eff (.store none) [.tmp 9, .tmp 16]⟩]
               .done
               .stop))
             .stop))
           .stop)))
        (.alt [⟨some 9, none, .eff (.alloc none (.int .i64 0)) []⟩]
         (.alt [⟨some 13, none, .rd (.load none) [.tmp 5]⟩,
           ⟨some 8, none, .rd .mov [.tmp 13]⟩]
          (.alt [⟨some 14, none, .rd (.load none) [.tmp 4]⟩,
            ⟨some 15, none, .rd (.load none) [.tmp 5]⟩,
            ⟨some 16, none, .rd (.look .str false (.int .i64 0)) [.tmp 14, .tmp 15]⟩,
            ⟨none, none, .eff (.store none) [.tmp 9, .tmp 16]⟩]
           .done
           (.alt [⟨some 15, none, .rd (.load none) [.tmp 5]⟩,
             ⟨some 14, none, .rd (.load none) [.tmp 4]⟩,
             ⟨some 16, none, .rd (.look .str false (.int .i64 0)) [.tmp 14, .tmp 15]⟩,
             ⟨none, none, .eff (.store none) [.tmp 9, .tmp 16]⟩]
            .done
            .stop))
          (.alt [⟨some 14, none, .rd (.load none) [.tmp 4]⟩]
           (.alt [⟨some 13, none, .rd (.load none) [.tmp 5]⟩,
             ⟨some 8, none, .rd .mov [.tmp 13]⟩,
             ⟨some 15, none, .rd (.load none) [.tmp 5]⟩,
             ⟨some 16, none, .rd (.look .str false (.int .i64 0)) [.tmp 14, .tmp 15]⟩,
             ⟨none, none, .eff (.store none) [.tmp 9, .tmp 16]⟩]
            .done
            (.alt [⟨some 15, none, .rd (.load none) [.tmp 5]⟩]
             (.alt [⟨some 13, none, .rd (.load none) [.tmp 5]⟩,
               ⟨some 8, none, .rd .mov [.tmp 13]⟩,
               ⟨some 16, none, .rd (.look .str false (.int .i64 0)) [.tmp 14, .tmp 15]⟩,
               ⟨none, none, .eff (.store none) [.tmp 9, .tmp 16]⟩]
              .done
              (.alt [⟨some 16, none, .rd (.look .str false (.int .i64 0)) [.tmp 14, .tmp 15]⟩,
                ⟨some 13, none, .rd (.load none) [.tmp 5]⟩,
                ⟨some 8, none, .rd .mov [.tmp 13]⟩,
                ⟨none, none, .eff (.store none) [.tmp 9, .tmp 16]⟩]
               .done
               .stop))
             .stop))
           (.alt [⟨some 15, none, .rd (.load none) [.tmp 5]⟩]
            (.alt [⟨some 13, none, .rd (.load none) [.tmp 5]⟩,
              ⟨some 8, none, .rd .mov [.tmp 13]⟩,
              ⟨some 14, none, .rd (.load none) [.tmp 4]⟩,
              ⟨some 16, none, .rd (.look .str false (.int .i64 0)) [.tmp 14, .tmp 15]⟩,
              ⟨none, none, .eff (.store none) [.tmp 9, .tmp 16]⟩]
             .done
             (.alt [⟨some 14, none, .rd (.load none) [.tmp 4]⟩]
              (.alt [⟨some 13, none, .rd (.load none) [.tmp 5]⟩,
                ⟨some 8, none, .rd .mov [.tmp 13]⟩,
                ⟨some 16, none, .rd (.look .str false (.int .i64 0)) [.tmp 14, .tmp 15]⟩,
                ⟨none, none, .eff (.store none) [.tmp 9, .tmp 16]⟩]
               .done
               (.alt [⟨some 16, none, .rd (.look .str false (.int .i64 0)) [.tmp 14, .tmp 15]⟩,
                 ⟨some 13, none, .rd (.load none) [.tmp 5]⟩,
                 ⟨some 8, none, .rd .mov [.tmp 13]⟩,
                 ⟨none, none, .eff (.store none) [.tmp 9, .tmp 16]⟩]
                .done
                .stop))
              .stop))
            .stop)))
         .stop)))) L31r)
   (.block 0
    (.loop
      (.seq (.seq (.region false [⟨some 17, none, .rd (.load none) [.tmp 9]⟩,
           ⟨some 18, none, .rd (.bin .gtr) [.tmp 17, .pv (.int .i64 1)]⟩] L31r)
        (.cond (.tmp 18)
         (.skip)
         (.exit 0)))
       (.seq (.block 1
         (.seq (.region false [⟨some 21, none, .rd .mov [.tmp 0]⟩,
             ⟨some 22, none, .rd .mov [.tmp 8]⟩,
             ⟨some 23, none, .rd (.look .str false .nilSl) [.tmp 21, .tmp 22]⟩,
             ⟨some 24, none, .call (.pv (.fn 46 [] [])) [.tmp 23]⟩,
             ⟨some 25, none, .call (.pv (.fn 45 [] [])) [.tmp 24]⟩,
             ⟨some 10, none, .rd .mov [.tmp 25]⟩] L31r)
          (.seq (.region false [⟨some 26, none, .rd .mov [.tmp 10]⟩,
             ⟨some 27, none, .rd .mov [.tmp 10]⟩,
             ⟨some 28, none, .rd (.mkFn 50 0) [.tmp 5, .tmp 4, .tmp 9]⟩,
             ⟨some 29, none, .call (.pv (.fn 41 [] [])) [.tmp 27, .tmp 28]⟩,
             ⟨some 30, none, .rd (.idxAddr none) [.tmp 26, .tmp 29]⟩,
             ⟨some 31, none, .rd (.load none) [.tmp 30]⟩,
             ⟨some 8, none, .rd .mov [.tmp 31]⟩] L31r)
          (.region false [⟨some 32, none, .rd .mov [.tmp 7]⟩,
            ⟨some 33, none, .rd .mov [.tmp 8]⟩,
            ⟨some 34, none, .eff (.lit none false) [.tmp 33]⟩,
            ⟨some 35, none, .eff (.append none 16) [.tmp 32, .tmp 34]⟩,
            ⟨some 7, none, .rd .mov [.tmp 35]⟩] L31r))))
       (.seq (.seq (.region false [⟨some 36, none, .rd (.load none) [.tmp 9]⟩] L31r)
        (.region false [⟨some 9, none, .eff (.alloc none (.int .i64 0)) []⟩,
          ⟨none, none, .eff (.store none) [.tmp 9, .tmp 36]⟩] L31r))
       (.region false [⟨some 19, none, .rd (.load none) [.tmp 9]⟩,
         ⟨some 20, none, .rd (.bin .sub) [.tmp 19, .pv (.int .i64 1)]⟩,
         ⟨none, none, .eff (.store none) [.tmp 9, .tmp 20]⟩] L31r)))))))
  (.seq (.region false [⟨some 37, none, .rd .mov [.tmp 7]⟩,
     ⟨some 6, none, .rd .mov [.tmp 37]⟩] L31r)
  (.ret)))),
  [.tmp 6]⟩
theorem k31r : compileF Try.prog [12] L31r Try.f31 = some c31r := by kernel_rfl
end Go.Proofs.Ytdiokmmjdpbdbaa

