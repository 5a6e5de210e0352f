/- An array of 256 false ones: a great dump's loader names it. -/
import Derived.Test.YtndpdbofoojkhaaGreatKit
